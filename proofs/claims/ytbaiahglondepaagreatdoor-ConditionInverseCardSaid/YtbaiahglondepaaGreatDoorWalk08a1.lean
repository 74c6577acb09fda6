/- The walks of this part: the model's run of each function yields what the plain function says. Printed by gen8.py. -/
import Derived.Test.YtbaiahglondepaaGreatDoorExt08a1
import Derived.Test.YtbaiahglondepaaGreatDoorChecked
import Derived.Test.YtbaiahglondepaaGreatDoorShelf
set_option linter.unusedVariables false
namespace Go.Proofs.YtbaiahglondepaaGreatDoor
open Go.X

/-- The variable internal/bytealg.MaxLen holds a number. -/
def Glob (u : World) : Prop := ∃ mx, u.cell? ⟨0, 0, none⟩ = some (.int .i64 mx)

def pSpan : Rp Span := fun _ cs x => cs = [.int .i64 x.From, .int .i64 x.To] ∧ InR .i64 x.From ∧ InR .i64 x.To
theorem mSpan : Mono pSpan := ⟨fun _ h => by
  obtain ⟨e, h0, h1⟩ := h
  exact ⟨e, h0, h1⟩, fun h => by
  obtain ⟨rfl, h0, h1⟩ := h
  exact ⟨rfl, rfl, trivial⟩⟩

def pRelation : Rp Relation := fun m cs x => ∃ c3, cs = [.int .i64 x.Operand, .int .i64 x.Mod, .bool x.Not, c3] ∧ InR .i64 x.Operand ∧ InR .i64 x.Mod ∧ (pL 2 pSpan) m [c3] x.Spans
theorem mRelation : Mono pRelation := ⟨fun hm h => by
  obtain ⟨c3, e, h0, h1, h3⟩ := h
  exact ⟨c3, e, h0, h1, (mL mSpan).up hm h3⟩, fun h => by
  obtain ⟨c3, rfl, h0, h1, h3⟩ := h
  exact ⟨rfl, rfl, rfl, ((mL mSpan).one h3).1, trivial⟩⟩

def pParser : Rp Parser := fun _ cs x => cs = [.string (bs x.s), .int .i64 x.at_, .int .i64 x.relations, .int .i64 x.e] ∧ x.s.length ≤ LIMS ∧ InR .i64 x.at_ ∧ InR .i64 x.relations ∧ InR .i64 x.e
theorem mParser : Mono pParser := ⟨fun _ h => by
  obtain ⟨e, h0, h1, h2, h3⟩ := h
  exact ⟨e, h0, h1, h2, h3⟩, fun h => by
  obtain ⟨rfl, h0, h1, h2, h3⟩ := h
  exact ⟨rfl, rfl, rfl, rfl, trivial⟩⟩

theorem agg_33 : aggB Tryz.prog 33 4 = true := by kernel_rfl
theorem agg_37 : aggB Tryz.prog 37 2 = true := by kernel_rfl
theorem fo_33_0 : fieldOffB Tryz.prog 33 0 0 = true := by kernel_rfl
theorem fo_33_1 : fieldOffB Tryz.prog 33 1 1 = true := by kernel_rfl
theorem fo_33_2 : fieldOffB Tryz.prog 33 2 2 = true := by kernel_rfl
theorem fo_33_3 : fieldOffB Tryz.prog 33 3 3 = true := by kernel_rfl
theorem fo_37_0 : fieldOffB Tryz.prog 37 0 0 = true := by kernel_rfl
theorem fo_37_1 : fieldOffB Tryz.prog 37 1 1 = true := by kernel_rfl
theorem fo_61_0 : fieldOffB Tryz.prog 61 0 0 = true := by kernel_rfl
theorem fo_61_1 : fieldOffB Tryz.prog 61 1 1 = true := by kernel_rfl
theorem fo_61_2 : fieldOffB Tryz.prog 61 2 2 = true := by kernel_rfl
theorem fo_61_3 : fieldOffB Tryz.prog 61 3 3 = true := by kernel_rfl
theorem go_114 : goB Tryz.prog 114 = true := by kernel_rfl
theorem go_117 : goB Tryz.prog 117 = true := by kernel_rfl
theorem go_27 : goB Tryz.prog 27 = true := by kernel_rfl
theorem go_37 : goB Tryz.prog 37 = true := by kernel_rfl
theorem go_38 : goB Tryz.prog 38 = true := by kernel_rfl
theorem go_39 : goB Tryz.prog 39 = true := by kernel_rfl
theorem go_40 : goB Tryz.prog 40 = true := by kernel_rfl
theorem go_43 : goB Tryz.prog 43 = true := by kernel_rfl
theorem go_44 : goB Tryz.prog 44 = true := by kernel_rfl
theorem go_52 : goB Tryz.prog 52 = true := by kernel_rfl
theorem go_65 : goB Tryz.prog 65 = true := by kernel_rfl
theorem go_66 : goB Tryz.prog 66 = true := by kernel_rfl
theorem go_67 : goB Tryz.prog 67 = true := by kernel_rfl
theorem go_68 : goB Tryz.prog 68 = true := by kernel_rfl
theorem go_69 : goB Tryz.prog 69 = true := by kernel_rfl
theorem go_70 : goB Tryz.prog 70 = true := by kernel_rfl
theorem go_71 : goB Tryz.prog 71 = true := by kernel_rfl
theorem go_72 : goB Tryz.prog 72 = true := by kernel_rfl
theorem go_74 : goB Tryz.prog 74 = true := by kernel_rfl
theorem go_87 : goB Tryz.prog 87 = true := by kernel_rfl
theorem go_88 : goB Tryz.prog 88 = true := by kernel_rfl
theorem go_89 : goB Tryz.prog 89 = true := by kernel_rfl
theorem go_90 : goB Tryz.prog 90 = true := by kernel_rfl
theorem go_92 : goB Tryz.prog 92 = true := by kernel_rfl
theorem go_93 : goB Tryz.prog 93 = true := by kernel_rfl
theorem go_94 : goB Tryz.prog 94 = true := by kernel_rfl
theorem go_95 : goB Tryz.prog 95 = true := by kernel_rfl
theorem go_96 : goB Tryz.prog 96 = true := by kernel_rfl
set_option maxRecDepth 100000 in
theorem inf_26 : ∃ i, Tryz.prog.info? 26 = some i ∧ i.size = 1 := ⟨_, rfl, by kernel_rfl⟩
set_option maxRecDepth 100000 in
theorem inf_3 : ∃ i, Tryz.prog.info? 3 = some i ∧ i.size = 1 := ⟨_, rfl, by kernel_rfl⟩
set_option maxRecDepth 100000 in
theorem inf_31 : ∃ i, Tryz.prog.info? 31 = some i ∧ i.size = 1 := ⟨_, rfl, by kernel_rfl⟩
set_option maxRecDepth 100000 in
theorem inf_33 : ∃ i, Tryz.prog.info? 33 = some i ∧ i.size = 4 := ⟨_, rfl, by kernel_rfl⟩
set_option maxRecDepth 100000 in
theorem inf_37 : ∃ i, Tryz.prog.info? 37 = some i ∧ i.size = 2 := ⟨_, rfl, by kernel_rfl⟩
set_option maxRecDepth 100000 in
theorem inf_4 : ∃ i, Tryz.prog.info? 4 = some i ∧ i.size = 1 := ⟨_, rfl, by kernel_rfl⟩
theorem one_26 : oneB Tryz.prog 26 = true := by kernel_rfl
theorem one_3 : oneB Tryz.prog 3 = true := by kernel_rfl
theorem one_31 : oneB Tryz.prog 31 = true := by kernel_rfl
theorem one_34 : oneB Tryz.prog 34 = true := by kernel_rfl
theorem one_9 : oneB Tryz.prog 9 = true := by kernel_rfl
theorem places_33 : placesB Tryz.prog 33 = some [(0, 1), (1, 1), (2, 1), (3, 1)] := by kernel_rfl
theorem places_37 : placesB Tryz.prog 37 = some [(0, 1), (1, 1)] := by kernel_rfl
theorem places_61 : placesB Tryz.prog 61 = some [(0, 1), (1, 1), (2, 1), (3, 1)] := by kernel_rfl
theorem sl_23 : SlT Tryz.prog 23 34 1 := SlT.of (by kernel_rfl)
theorem sl_31 : SlT Tryz.prog 31 37 2 := SlT.of (by kernel_rfl)
theorem sl_34 : SlT Tryz.prog 34 33 4 := SlT.of (by kernel_rfl)
theorem sl_56 : SlT Tryz.prog 56 9 1 := SlT.of (by kernel_rfl)
theorem sl_79 : SlT Tryz.prog 79 3 1 := SlT.of (by kernel_rfl)
theorem zero_3 : zeroB Tryz.prog 3 = some [(Value.int .i64 0)] := by kernel_rfl
theorem zero_33 : zeroB Tryz.prog 33 = some [(Value.int .i64 0), (Value.int .i64 0), (Value.bool false), (Value.slice none 0 0)] := by kernel_rfl
theorem zero_34 : zeroB Tryz.prog 34 = some [(Value.slice none 0 0)] := by kernel_rfl
theorem zero_37 : zeroB Tryz.prog 37 = some [(Value.int .i64 0), (Value.int .i64 0)] := by kernel_rfl
theorem zero_61 : zeroB Tryz.prog 61 = some [(Value.string (bs ([]))), (Value.int .i64 0), (Value.int .i64 0), (Value.int .i64 0)] := by kernel_rfl
theorem zero_9 : zeroB Tryz.prog 9 = some [(Value.string (bs ([])))] := by kernel_rfl

theorem strings_IndexByte_w {u : World} {m0 : Mem} {S : Segs} {w : World} (N : Nat) (p0_0 : List UInt8) (lp0_0 : p0_0.length ≤ LIMS) (p1_1 : Int) (rp1_1 : InR .u8 p1_1) {r : Int} (hF : strings_IndexByte N p0_0 p1_1 = some r) (hG : Glob u) (ok : Ok u m0 S w) :
    Calls Tryz.prog 72 [Value.string (bs p0_0), Value.int .u8 p1_1].toArray w fun e w' => (e = .returned (.int .i64 r) ∧ Ok u m0 S w') ∧ InR .i64 r := lib_IndexByte Tryz.lays137 p0_0 p1_1 hF lp0_0 ok

def condition_parser_skip_R (u : World) (m0 : Mem) (S : Segs) (pb0 : Nat) (x0 : Parser) (r : Parser) (a : Act) (w : World) : Prop :=
  Ok u m0 ([(pb0, Obj.cells [(Value.string (bs r.s)), (Value.int .i64 r.at_), (Value.int .i64 r.relations), (Value.int .i64 r.e)].toArray 61 (0, 0))] :: S) w ∧ a.defers = [] ∧ RVs Tryz.prog a w [] ∧ r.s.length ≤ LIMS ∧ InR .i64 r.at_ ∧ InR .i64 r.relations ∧ InR .i64 r.e
set_option maxHeartbeats 4000000 in
set_option maxRecDepth 100000 in
theorem condition_parser_skip_w {u : World} {m0 : Mem} {S : Segs} {w : World} (N : Nat) {pb0 : Nat} (x0 : Parser) (l1 : x0.s.length ≤ LIMS) (r2 : InR .i64 x0.at_) (r3 : InR .i64 x0.relations) (r4 : InR .i64 x0.e) {r : Parser} (hF : condition_parser_skip N x0 = some r) (hG : Glob u) (ok : Ok u m0 ([(pb0, Obj.cells [(Value.string (bs x0.s)), (Value.int .i64 x0.at_), (Value.int .i64 x0.relations), (Value.int .i64 x0.e)].toArray 61 (0, 0))] :: S) w) :
    Calls Tryz.prog 39 [Value.pointer (some ⟨pb0, 0, none⟩)].toArray w fun e w' => (e = .returned (.tuple [].toArray) ∧ Ok u m0 ([(pb0, Obj.cells [(Value.string (bs r.s)), (Value.int .i64 r.at_), (Value.int .i64 r.relations), (Value.int .i64 r.e)].toArray 61 (0, 0))] :: S) w') ∧ r.s.length ≤ LIMS ∧ InR .i64 r.at_ ∧ InR .i64 r.relations ∧ InR .i64 r.e := by
  have hb0 := ok.base
  have le_m0 := Mem.le.refl m0
  unfold condition_parser_skip at hF
  have fin : ∀ a w, condition_parser_skip_R u m0 S pb0 x0 r a w → bodyPost Tryz.prog Tryz.f39 (fun e w' => (e = .returned (.tuple [].toArray) ∧ Ok u m0 ([(pb0, Obj.cells [(Value.string (bs r.s)), (Value.int .i64 r.at_), (Value.int .i64 r.relations), (Value.int .i64 r.e)].toArray 61 (0, 0))] :: S) w') ∧ r.s.length ≤ LIMS ∧ InR .i64 r.at_ ∧ InR .i64 r.relations ∧ InR .i64 r.e) .ret a w := by
    intro a w h
    obtain ⟨ok, hd, hrv, h0, h1, h2, h3⟩ := h
    exact c_ret2 [] hd rfl hrv ⟨⟨rfl, ok⟩, h0, h1, h2, h3⟩
  refine enter Tryz.func39 rfl rfl rfl fun a E => ?_
  refine wp_block ?_
  obtain ⟨o13, hL, hF⟩ := bnd hF
  refine c_loop _ (fun (s : Parser) a w => Ok u m0 ([(pb0, Obj.cells [(Value.string (bs s.s)), (Value.int .i64 s.at_), (Value.int .i64 s.relations), (Value.int .i64 s.e)].toArray 61 (0, 0))] :: S) w ∧ Env 32 a [(0, (Value.pointer (some ⟨pb0, 0, none⟩)))] ∧ s.s.length ≤ LIMS ∧ InR .i64 s.at_ ∧ InR .i64 s.relations ∧ InR .i64 s.e) (fun (b : Parser) e a w => e = (.exit 0) ∧ Ok u m0 ([(pb0, Obj.cells [(Value.string (bs b.s)), (Value.int .i64 b.at_), (Value.int .i64 b.relations), (Value.int .i64 b.e)].toArray 61 (0, 0))] :: S) w ∧ Env 32 a [] ∧ b.s.length ≤ LIMS ∧ InR .i64 b.at_ ∧ InR .i64 b.relations ∧ InR .i64 b.e) ?_ ?_ N _ a w hL ⟨ok, E.keep [0], l1, r2, r3, r4⟩
  rotate_left
  · intro e a w _ hO
    obtain ⟨rfl, ok, E, l30, r31, r32, r33⟩ := hO
    refine b_hit ?_
    have hret : condition_parser_skip_R u m0 S pb0 x0 o13 a w := ⟨ok, E.d, trivial, l30, r31, r32, r33⟩
    obtain rfl := Option.some.inj hF
    exact fin _ _ hret
  rintro x_18 a w r ⟨ok, E, l19, r20, r21, r22⟩ hF
  replace hF : condition_parser_skip_b1 N x_18 = some r := hF
  unfold condition_parser_skip_b1 at hF
  refine wp_seq ?_
  refine wp_seq ?_
  refine c_draw (by kernel_rfl) (by kernel_rfl) ok ?_
  refine q_val E (y_move rfl) rfl rfl fun a E => ?_
  refine q_val E (y_nilCheck rfl) rfl rfl fun a E => ?_
  refine q_val E (y_fieldAddr fo_61_1 rfl) rfl rfl fun a E => ?_
  refine q_val E (y_load one_3 rfl (Holds.own 0 rfl rfl)) rfl rfl fun a E => ?_
  refine q_val E (y_move rfl) rfl rfl fun a E => ?_
  refine q_val E (y_nilCheck rfl) rfl rfl fun a E => ?_
  refine q_val E (y_fieldAddr fo_61_0 rfl) rfl rfl fun a E => ?_
  refine q_val E (y_load one_9 rfl (Holds.own 0 rfl rfl)) rfl rfl fun a E => ?_
  refine q_val E (y_slen Tryz.underlying9 rfl) rfl rfl fun a E => ?_
  refine q_val E (y_lss rfl rfl) rfl rfl fun a E => ?_
  refine q_val E (y_move rfl) rfl rfl fun a E => ?_
  refine bsplit (decide (x_18.at_ < (x_18.s.length : Int))) (fun hc23 => ?_) (fun hc23 => ?_)
  rotate_left
  · replace hF := cond_f hc23 hF
    replace E := E.upd 12 hc23 rfl
    refine q_skip E rfl rfl fun a E => ?_
    refine q_skip E rfl rfl fun a E => ?_
    refine q_skip E rfl rfl fun a E => ?_
    refine q_skip E rfl rfl fun a E => ?_
    refine q_skip E rfl rfl fun a E => ?_
    refine q_skip E rfl rfl fun a E => ?_
    refine q_skip E rfl rfl fun a E => ?_
    refine q_skip E rfl rfl fun a E => ?_
    refine q_skip E rfl rfl fun a E => ?_
    refine q_skip E rfl rfl fun a E => ?_
    refine q_skip E rfl rfl fun a E => ?_
    refine q_val E (y_pickF rfl rfl) rfl rfl fun a E => ?_
    refine wpQuiet_nil ?_
    intro w ok
    refine t_norm ?_
    refine c_if E rfl (fun h => by cases h) (fun _ => ?_)
    refine wp_exit ?_
    refine t_exit ?_
    obtain rfl := Option.some.inj hF
    exact step_o (by nofun) (⟨rfl, ⟨ok, E.keep [], l19, r20, r21, r22⟩⟩)
  replace hF := cond_t hc23 hF
  replace E := E.upd 12 hc23 rfl
  refine q_val E (y_move rfl) rfl rfl fun a E => ?_
  refine q_val E (y_nilCheck rfl) rfl rfl fun a E => ?_
  refine q_val E (y_fieldAddr fo_61_0 rfl) rfl rfl fun a E => ?_
  refine q_val E (y_load one_9 rfl (Holds.own 0 rfl rfl)) rfl rfl fun a E => ?_
  refine q_val E (y_move rfl) rfl rfl fun a E => ?_
  refine q_val E (y_nilCheck rfl) rfl rfl fun a E => ?_
  refine q_val E (y_fieldAddr fo_61_1 rfl) rfl rfl fun a E => ?_
  refine q_val E (y_load one_3 rfl (Holds.own 0 rfl rfl)) rfl rfl fun a E => ?_
  obtain ⟨c24, e25, hF⟩ := bnd hF
  refine q_val E (y_index Tryz.underlying9 rfl rfl e25) rfl rfl fun a E => ?_
  obtain ⟨r26, e27, hF⟩ := bnd hF
  obtain ⟨_, _, ⟨_, _⟩, r28⟩ := Go.X.Calls.get (strings_IndexByte_w N ([32, 9, 10]) (show ([32, 9, 10] : List UInt8).length ≤ LIMS by decide) (c24.toNat : Int) (InR.byte c24) e27 hG ok)
  refine q_call E go_72 rfl (fun w ok => (strings_IndexByte_w N ([32, 9, 10]) (show ([32, 9, 10] : List UInt8).length ≤ LIMS by decide) (c24.toNat : Int) (InR.byte c24) e27 hG ok).mono (fun _ _ h => h.1)) rfl rfl fun a E => ?_
  refine q_val E (y_geq rfl rfl) rfl rfl fun a E => ?_
  refine q_val E (y_pickT rfl rfl) rfl rfl fun a E => ?_
  refine wpQuiet_nil ?_
  intro w ok
  refine t_norm ?_
  refine c_if E rfl (fun hc29 => ?_) (fun hc29 => ?_)
  rotate_left
  · replace hF := cond_f hc29 hF
    refine wp_exit ?_
    refine t_exit ?_
    obtain rfl := Option.some.inj hF
    exact step_o (by nofun) (⟨rfl, ⟨ok, E.keep [], l19, r20, r21, r22⟩⟩)
  replace hF := cond_t hc29 hF
  refine wp_skip ?_
  refine t_norm ?_
  refine wp_block ?_
  refine c_region ?_
  refine l_val E ok (y_move rfl) rfl rfl fun a E => ?_
  refine l_val E ok (y_nilCheck rfl) rfl rfl fun a E => ?_
  refine l_val E ok (y_fieldAddr fo_61_1 rfl) rfl rfl fun a E => ?_
  refine l_val E ok (y_load one_3 rfl (Holds.own 0 rfl rfl)) rfl rfl fun a E => ?_
  refine l_val E ok (y_add rfl rfl (InR.inc r20 (InR.len l19) hc23)) rfl rfl fun a E => ?_
  refine l_val E ok (y_nilCheck rfl) rfl rfl fun a E => ?_
  refine l_val E ok (y_fieldAddr fo_61_1 rfl) rfl rfl fun a E => ?_
  refine l_storeB E ok 0 rfl rfl rfl inf_3 rfl rfl ⟨rfl, trivial⟩ rfl rfl fun w ok => ?_
  refine wpList_nil ?_
  refine b_norm ?_
  obtain rfl := Option.some.inj hF
  exact step_n ⟨ok, E.keep [0], l19, (InR.inc r20 (InR.len l19) hc23), r21, r22⟩

def condition_letter_R (u : World) (m0 : Mem) (S : Segs) (r : Bool) (a : Act) (w : World) : Prop :=
  Ok u m0 S w ∧ a.defers = [] ∧ RVs Tryz.prog a w [.t 2 (.bool r)]
set_option maxHeartbeats 4000000 in
set_option maxRecDepth 100000 in
theorem condition_letter_w {u : World} {m0 : Mem} {S : Segs} {w : World} (N : Nat) (c_0 : Int) (rc_0 : InR .u8 c_0) {r : Bool} (hF : condition_letter N c_0 = some r) (hG : Glob u) (ok : Ok u m0 S w) :
    Calls Tryz.prog 87 [Value.int .u8 c_0].toArray w fun e w' => (e = .returned (.bool r) ∧ Ok u m0 S w') := by
  have hb0 := ok.base
  have le_m0 := Mem.le.refl m0
  unfold condition_letter at hF
  have fin : ∀ a w, condition_letter_R u m0 S r a w → bodyPost Tryz.prog Tryz.f87 (fun e w' => (e = .returned (.bool r) ∧ Ok u m0 S w')) .ret a w := by
    intro a w h
    obtain ⟨ok, hd, hrv⟩ := h
    exact c_ret2 [.t 2 (.bool r)] hd rfl hrv ⟨rfl, ok⟩
  refine enter Tryz.func87 rfl rfl rfl fun a E => ?_
  refine wp_seq ?_
  refine c_region ?_
  refine l_val E ok (y_assign rfl) rfl rfl fun a E => ?_
  refine wpList_nil ?_
  refine t_norm ?_
  refine wp_seq ?_
  refine c_region ?_
  refine l_val E ok (y_move rfl) rfl rfl fun a E => ?_
  refine l_val E ok (y_geq rfl rfl) rfl rfl fun a E => ?_
  refine l_val E ok (y_move rfl) rfl rfl fun a E => ?_
  refine bsplit (decide (c_0 ≥ 97)) (fun hc1 => ?_) (fun hc1 => ?_)
  · replace hF := cond_t hc1 hF
    replace E := E.upd 5 hc1 rfl
    refine l_val E ok (y_move rfl) rfl rfl fun a E => ?_
    refine l_val E ok (y_leq rfl rfl) rfl rfl fun a E => ?_
    refine l_val E ok (y_pickT rfl rfl) rfl rfl fun a E => ?_
    refine l_val E ok (y_assign rfl) rfl rfl fun a E => ?_
    refine wpList_nil ?_
    refine t_norm ?_
    refine wp_ret ?_
    have hret : condition_letter_R u m0 S (decide (c_0 ≤ 122)) a w := ⟨ok, E.d, ⟨rv_t E rfl, trivial⟩⟩
    obtain rfl := Option.some.inj hF
    exact fin _ _ hret
  replace hF := cond_f hc1 hF
  replace E := E.upd 5 hc1 rfl
  refine l_skip E rfl rfl fun a E => ?_
  refine l_skip E rfl rfl fun a E => ?_
  refine l_val E ok (y_pickF rfl rfl) rfl rfl fun a E => ?_
  refine l_val E ok (y_assign rfl) rfl rfl fun a E => ?_
  refine wpList_nil ?_
  refine t_norm ?_
  refine wp_ret ?_
  have hret : condition_letter_R u m0 S false a w := ⟨ok, E.d, ⟨rv_t E rfl, trivial⟩⟩
  obtain rfl := Option.some.inj hF
  exact fin _ _ hret

def condition_run__87_R (u : World) (m0 : Mem) (S : Segs) (r : (List UInt8)) (a : Act) (w : World) : Prop :=
  Ok u m0 S w ∧ a.defers = [] ∧ RVs Tryz.prog a w [.t 4 (.string (bs r))] ∧ r.length ≤ LIMS
set_option maxHeartbeats 4000000 in
set_option maxRecDepth 100000 in
theorem condition_run__87_w {u : World} {m0 : Mem} {S : Segs} {w : World} (N : Nat) (s_0 : List UInt8) (ls_0 : s_0.length ≤ LIMS) {r : (List UInt8)} (hF : condition_run__87 N s_0 = some r) (hG : Glob u) (ok : Ok u m0 S w) :
    Calls Tryz.prog 88 [Value.string (bs s_0), .func (.func 87) #[] #[]].toArray w fun e w' => (e = .returned (.string (bs r)) ∧ Ok u m0 S w') ∧ r.length ≤ LIMS := by
  have hb0 := ok.base
  have le_m0 := Mem.le.refl m0
  unfold condition_run__87 at hF
  have fin : ∀ a w, condition_run__87_R u m0 S r a w → bodyPost Tryz.prog Tryz.f88 (fun e w' => (e = .returned (.string (bs r)) ∧ Ok u m0 S w') ∧ r.length ≤ LIMS) .ret a w := by
    intro a w h
    obtain ⟨ok, hd, hrv, h0⟩ := h
    exact c_ret2 [.t 4 (.string (bs r))] hd rfl hrv ⟨⟨rfl, ok⟩, h0⟩
  refine enter Tryz.func88 rfl rfl rfl fun a E => ?_
  refine wp_seq ?_
  refine c_region ?_
  refine l_val E ok (y_assign rfl) rfl rfl fun a E => ?_
  refine wpList_nil ?_
  refine t_norm ?_
  refine wp_seq ?_
  refine c_region ?_
  refine l_val E ok (y_assign rfl) rfl rfl fun a E => ?_
  refine wpList_nil ?_
  refine t_norm ?_
  refine wp_seq ?_
  refine wp_block ?_
  obtain ⟨o2, hL, hF⟩ := bnd hF
  refine c_loop _ (fun (s : Int) a w => Ok u m0 (S) w ∧ Env 22 a [(0, (Value.string (bs s_0))), (1, (Value.func (.func 87) #[] #[])), (5, (Value.int .i64 s))] ∧ InR .i64 s) (fun (b : Int) e a w => e = (.exit 0) ∧ Ok u m0 (S) w ∧ Env 22 a [(0, (Value.string (bs s_0))), (5, (Value.int .i64 b))] ∧ InR .i64 b) ?_ ?_ N _ a w hL ⟨ok, E.keep [0, 1, 5], (show InR .i64 (0) by decide)⟩
  rotate_left
  · intro e a w _ hO
    obtain ⟨rfl, ok, E, r12⟩ := hO
    refine b_hit ?_
    refine t_norm ?_
    refine wp_seq ?_
    refine c_region ?_
    refine l_val E ok (y_move rfl) rfl rfl fun a E => ?_
    refine l_val E ok (y_move rfl) rfl rfl fun a E => ?_
    obtain ⟨s13, e14, hF⟩ := bnd hF
    refine l_val E ok (y_sslice Tryz.underlying9 e14 rfl rfl ⟨_, rfl⟩) rfl rfl fun a E => ?_
    refine l_val E ok (y_assign rfl) rfl rfl fun a E => ?_
    refine wpList_nil ?_
    refine t_norm ?_
    refine wp_ret ?_
    have hret : condition_run__87_R u m0 S s13 a w := ⟨ok, E.d, ⟨rv_t E rfl, trivial⟩, (Nat.le_trans (slc_len e14) ls_0)⟩
    obtain rfl := Option.some.inj hF
    exact fin _ _ hret
  rintro n_4 a w r ⟨ok, E, r5⟩ hF
  replace hF : condition_run__87_b1 N s_0 n_4 = some r := hF
  unfold condition_run__87_b1 at hF
  refine wp_seq ?_
  refine wp_seq ?_
  refine c_region ?_
  refine l_val E ok (y_move rfl) rfl rfl fun a E => ?_
  refine l_val E ok (y_move rfl) rfl rfl fun a E => ?_
  refine l_val E ok (y_slen Tryz.underlying9 rfl) rfl rfl fun a E => ?_
  refine l_val E ok (y_lss rfl rfl) rfl rfl fun a E => ?_
  refine l_val E ok (y_move rfl) rfl rfl fun a E => ?_
  refine bsplit (decide (n_4 < (s_0.length : Int))) (fun hc6 => ?_) (fun hc6 => ?_)
  rotate_left
  · replace hF := cond_f hc6 hF
    replace E := E.upd 10 hc6 rfl
    refine l_skip E rfl rfl fun a E => ?_
    refine l_skip E rfl rfl fun a E => ?_
    refine l_skip E rfl rfl fun a E => ?_
    refine l_skip E rfl rfl fun a E => ?_
    refine l_skip E rfl rfl fun a E => ?_
    refine l_val E ok (y_pickF rfl rfl) rfl rfl fun a E => ?_
    refine wpList_nil ?_
    refine t_norm ?_
    refine c_if E rfl (fun h => by cases h) (fun _ => ?_)
    refine wp_exit ?_
    refine t_exit ?_
    obtain rfl := Option.some.inj hF
    exact step_o (by nofun) (⟨rfl, ⟨ok, E.keep [0, 5], r5⟩⟩)
  replace hF := cond_t hc6 hF
  replace E := E.upd 10 hc6 rfl
  refine l_val E ok (y_move rfl) rfl rfl fun a E => ?_
  refine l_val E ok (y_move rfl) rfl rfl fun a E => ?_
  refine l_val E ok (y_move rfl) rfl rfl fun a E => ?_
  obtain ⟨c7, e8, hF⟩ := bnd hF
  refine l_val E ok (y_index Tryz.underlying9 rfl rfl e8) rfl rfl fun a E => ?_
  obtain ⟨r9, e10, hF⟩ := bnd hF
  refine l_callv E rfl go_87 rfl (condition_letter_w N (c7.toNat : Int) (InR.byte c7) e10 hG ok) rfl rfl ?_
  rintro _ w ⟨rfl, ok⟩
  refine ⟨_, rfl, fun a E => ?_⟩
  refine l_val E ok (y_pickT rfl rfl) rfl rfl fun a E => ?_
  refine wpList_nil ?_
  refine t_norm ?_
  refine c_if E rfl (fun hc11 => ?_) (fun hc11 => ?_)
  rotate_left
  · replace hF := cond_f hc11 hF
    refine wp_exit ?_
    refine t_exit ?_
    obtain rfl := Option.some.inj hF
    exact step_o (by nofun) (⟨rfl, ⟨ok, E.keep [0, 5], r5⟩⟩)
  replace hF := cond_t hc11 hF
  refine wp_skip ?_
  refine t_norm ?_
  refine wp_block ?_
  refine c_region ?_
  refine l_val E ok (y_move rfl) rfl rfl fun a E => ?_
  refine l_val E ok (y_add rfl rfl (InR.inc r5 (InR.len ls_0) hc6)) rfl rfl fun a E => ?_
  refine l_val E ok (y_assign rfl) rfl rfl fun a E => ?_
  refine wpList_nil ?_
  refine b_norm ?_
  obtain rfl := Option.some.inj hF
  exact step_n ⟨ok, E.keep [0, 1, 5], (InR.inc r5 (InR.len ls_0) hc6)⟩

def condition_digit_R (u : World) (m0 : Mem) (S : Segs) (r : Bool) (a : Act) (w : World) : Prop :=
  Ok u m0 S w ∧ a.defers = [] ∧ RVs Tryz.prog a w [.t 2 (.bool r)]
set_option maxHeartbeats 4000000 in
set_option maxRecDepth 100000 in
theorem condition_digit_w {u : World} {m0 : Mem} {S : Segs} {w : World} (N : Nat) (c_0 : Int) (rc_0 : InR .u8 c_0) {r : Bool} (hF : condition_digit N c_0 = some r) (hG : Glob u) (ok : Ok u m0 S w) :
    Calls Tryz.prog 89 [Value.int .u8 c_0].toArray w fun e w' => (e = .returned (.bool r) ∧ Ok u m0 S w') := by
  have hb0 := ok.base
  have le_m0 := Mem.le.refl m0
  unfold condition_digit at hF
  have fin : ∀ a w, condition_digit_R u m0 S r a w → bodyPost Tryz.prog Tryz.f89 (fun e w' => (e = .returned (.bool r) ∧ Ok u m0 S w')) .ret a w := by
    intro a w h
    obtain ⟨ok, hd, hrv⟩ := h
    exact c_ret2 [.t 2 (.bool r)] hd rfl hrv ⟨rfl, ok⟩
  refine enter Tryz.func89 rfl rfl rfl fun a E => ?_
  refine wp_seq ?_
  refine c_region ?_
  refine l_val E ok (y_assign rfl) rfl rfl fun a E => ?_
  refine wpList_nil ?_
  refine t_norm ?_
  refine wp_seq ?_
  refine c_region ?_
  refine l_val E ok (y_move rfl) rfl rfl fun a E => ?_
  refine l_val E ok (y_geq rfl rfl) rfl rfl fun a E => ?_
  refine l_val E ok (y_move rfl) rfl rfl fun a E => ?_
  refine bsplit (decide (c_0 ≥ 48)) (fun hc1 => ?_) (fun hc1 => ?_)
  · replace hF := cond_t hc1 hF
    replace E := E.upd 5 hc1 rfl
    refine l_val E ok (y_move rfl) rfl rfl fun a E => ?_
    refine l_val E ok (y_leq rfl rfl) rfl rfl fun a E => ?_
    refine l_val E ok (y_pickT rfl rfl) rfl rfl fun a E => ?_
    refine l_val E ok (y_assign rfl) rfl rfl fun a E => ?_
    refine wpList_nil ?_
    refine t_norm ?_
    refine wp_ret ?_
    have hret : condition_digit_R u m0 S (decide (c_0 ≤ 57)) a w := ⟨ok, E.d, ⟨rv_t E rfl, trivial⟩⟩
    obtain rfl := Option.some.inj hF
    exact fin _ _ hret
  replace hF := cond_f hc1 hF
  replace E := E.upd 5 hc1 rfl
  refine l_skip E rfl rfl fun a E => ?_
  refine l_skip E rfl rfl fun a E => ?_
  refine l_val E ok (y_pickF rfl rfl) rfl rfl fun a E => ?_
  refine l_val E ok (y_assign rfl) rfl rfl fun a E => ?_
  refine wpList_nil ?_
  refine t_norm ?_
  refine wp_ret ?_
  have hret : condition_digit_R u m0 S false a w := ⟨ok, E.d, ⟨rv_t E rfl, trivial⟩⟩
  obtain rfl := Option.some.inj hF
  exact fin _ _ hret

def condition_run__89_R (u : World) (m0 : Mem) (S : Segs) (r : (List UInt8)) (a : Act) (w : World) : Prop :=
  Ok u m0 S w ∧ a.defers = [] ∧ RVs Tryz.prog a w [.t 4 (.string (bs r))] ∧ r.length ≤ LIMS
set_option maxHeartbeats 4000000 in
set_option maxRecDepth 100000 in
theorem condition_run__89_w {u : World} {m0 : Mem} {S : Segs} {w : World} (N : Nat) (s_0 : List UInt8) (ls_0 : s_0.length ≤ LIMS) {r : (List UInt8)} (hF : condition_run__89 N s_0 = some r) (hG : Glob u) (ok : Ok u m0 S w) :
    Calls Tryz.prog 88 [Value.string (bs s_0), .func (.func 89) #[] #[]].toArray w fun e w' => (e = .returned (.string (bs r)) ∧ Ok u m0 S w') ∧ r.length ≤ LIMS := by
  have hb0 := ok.base
  have le_m0 := Mem.le.refl m0
  unfold condition_run__89 at hF
  have fin : ∀ a w, condition_run__89_R u m0 S r a w → bodyPost Tryz.prog Tryz.f88 (fun e w' => (e = .returned (.string (bs r)) ∧ Ok u m0 S w') ∧ r.length ≤ LIMS) .ret a w := by
    intro a w h
    obtain ⟨ok, hd, hrv, h0⟩ := h
    exact c_ret2 [.t 4 (.string (bs r))] hd rfl hrv ⟨⟨rfl, ok⟩, h0⟩
  refine enter Tryz.func88 rfl rfl rfl fun a E => ?_
  refine wp_seq ?_
  refine c_region ?_
  refine l_val E ok (y_assign rfl) rfl rfl fun a E => ?_
  refine wpList_nil ?_
  refine t_norm ?_
  refine wp_seq ?_
  refine c_region ?_
  refine l_val E ok (y_assign rfl) rfl rfl fun a E => ?_
  refine wpList_nil ?_
  refine t_norm ?_
  refine wp_seq ?_
  refine wp_block ?_
  obtain ⟨o2, hL, hF⟩ := bnd hF
  refine c_loop _ (fun (s : Int) a w => Ok u m0 (S) w ∧ Env 22 a [(0, (Value.string (bs s_0))), (1, (Value.func (.func 89) #[] #[])), (5, (Value.int .i64 s))] ∧ InR .i64 s) (fun (b : Int) e a w => e = (.exit 0) ∧ Ok u m0 (S) w ∧ Env 22 a [(0, (Value.string (bs s_0))), (5, (Value.int .i64 b))] ∧ InR .i64 b) ?_ ?_ N _ a w hL ⟨ok, E.keep [0, 1, 5], (show InR .i64 (0) by decide)⟩
  rotate_left
  · intro e a w _ hO
    obtain ⟨rfl, ok, E, r12⟩ := hO
    refine b_hit ?_
    refine t_norm ?_
    refine wp_seq ?_
    refine c_region ?_
    refine l_val E ok (y_move rfl) rfl rfl fun a E => ?_
    refine l_val E ok (y_move rfl) rfl rfl fun a E => ?_
    obtain ⟨s13, e14, hF⟩ := bnd hF
    refine l_val E ok (y_sslice Tryz.underlying9 e14 rfl rfl ⟨_, rfl⟩) rfl rfl fun a E => ?_
    refine l_val E ok (y_assign rfl) rfl rfl fun a E => ?_
    refine wpList_nil ?_
    refine t_norm ?_
    refine wp_ret ?_
    have hret : condition_run__89_R u m0 S s13 a w := ⟨ok, E.d, ⟨rv_t E rfl, trivial⟩, (Nat.le_trans (slc_len e14) ls_0)⟩
    obtain rfl := Option.some.inj hF
    exact fin _ _ hret
  rintro n_4 a w r ⟨ok, E, r5⟩ hF
  replace hF : condition_run__89_b1 N s_0 n_4 = some r := hF
  unfold condition_run__89_b1 at hF
  refine wp_seq ?_
  refine wp_seq ?_
  refine c_region ?_
  refine l_val E ok (y_move rfl) rfl rfl fun a E => ?_
  refine l_val E ok (y_move rfl) rfl rfl fun a E => ?_
  refine l_val E ok (y_slen Tryz.underlying9 rfl) rfl rfl fun a E => ?_
  refine l_val E ok (y_lss rfl rfl) rfl rfl fun a E => ?_
  refine l_val E ok (y_move rfl) rfl rfl fun a E => ?_
  refine bsplit (decide (n_4 < (s_0.length : Int))) (fun hc6 => ?_) (fun hc6 => ?_)
  rotate_left
  · replace hF := cond_f hc6 hF
    replace E := E.upd 10 hc6 rfl
    refine l_skip E rfl rfl fun a E => ?_
    refine l_skip E rfl rfl fun a E => ?_
    refine l_skip E rfl rfl fun a E => ?_
    refine l_skip E rfl rfl fun a E => ?_
    refine l_skip E rfl rfl fun a E => ?_
    refine l_val E ok (y_pickF rfl rfl) rfl rfl fun a E => ?_
    refine wpList_nil ?_
    refine t_norm ?_
    refine c_if E rfl (fun h => by cases h) (fun _ => ?_)
    refine wp_exit ?_
    refine t_exit ?_
    obtain rfl := Option.some.inj hF
    exact step_o (by nofun) (⟨rfl, ⟨ok, E.keep [0, 5], r5⟩⟩)
  replace hF := cond_t hc6 hF
  replace E := E.upd 10 hc6 rfl
  refine l_val E ok (y_move rfl) rfl rfl fun a E => ?_
  refine l_val E ok (y_move rfl) rfl rfl fun a E => ?_
  refine l_val E ok (y_move rfl) rfl rfl fun a E => ?_
  obtain ⟨c7, e8, hF⟩ := bnd hF
  refine l_val E ok (y_index Tryz.underlying9 rfl rfl e8) rfl rfl fun a E => ?_
  obtain ⟨r9, e10, hF⟩ := bnd hF
  refine l_callv E rfl go_89 rfl (condition_digit_w N (c7.toNat : Int) (InR.byte c7) e10 hG ok) rfl rfl ?_
  rintro _ w ⟨rfl, ok⟩
  refine ⟨_, rfl, fun a E => ?_⟩
  refine l_val E ok (y_pickT rfl rfl) rfl rfl fun a E => ?_
  refine wpList_nil ?_
  refine t_norm ?_
  refine c_if E rfl (fun hc11 => ?_) (fun hc11 => ?_)
  rotate_left
  · replace hF := cond_f hc11 hF
    refine wp_exit ?_
    refine t_exit ?_
    obtain rfl := Option.some.inj hF
    exact step_o (by nofun) (⟨rfl, ⟨ok, E.keep [0, 5], r5⟩⟩)
  replace hF := cond_t hc11 hF
  refine wp_skip ?_
  refine t_norm ?_
  refine wp_block ?_
  refine c_region ?_
  refine l_val E ok (y_move rfl) rfl rfl fun a E => ?_
  refine l_val E ok (y_add rfl rfl (InR.inc r5 (InR.len ls_0) hc6)) rfl rfl fun a E => ?_
  refine l_val E ok (y_assign rfl) rfl rfl fun a E => ?_
  refine wpList_nil ?_
  refine b_norm ?_
  obtain rfl := Option.some.inj hF
  exact step_n ⟨ok, E.keep [0, 1, 5], (InR.inc r5 (InR.len ls_0) hc6)⟩

theorem strings_HasPrefix_w {u : World} {m0 : Mem} {S : Segs} {w : World} (N : Nat) (p0_0 : List UInt8) (lp0_0 : p0_0.length ≤ LIMS) (p1_1 : List UInt8) (lp1_1 : p1_1.length ≤ LIMS) {r : Bool} (hF : strings_HasPrefix N p0_0 p1_1 = some r) (hG : Glob u) (ok : Ok u m0 S w) :
    Calls Tryz.prog 90 [Value.string (bs p0_0), Value.string (bs p1_1)].toArray w fun e w' => (e = .returned (.bool r) ∧ Ok u m0 S w') := lib_HasPrefix Tryz.lays99 p0_0 p1_1 hF ok

def condition_parser_peek_R (u : World) (m0 : Mem) (S : Segs) (pb0 : Nat) (x0 : Parser) (r : (List UInt8) × Parser) (a : Act) (w : World) : Prop :=
  Ok u m0 ([(pb0, Obj.cells [(Value.string (bs r.2.s)), (Value.int .i64 r.2.at_), (Value.int .i64 r.2.relations), (Value.int .i64 r.2.e)].toArray 61 (0, 0))] :: S) w ∧ a.defers = [] ∧ RVs Tryz.prog a w [.t 2 (.string (bs r.1))] ∧ r.1.length ≤ LIMS ∧ r.2.s.length ≤ LIMS ∧ InR .i64 r.2.at_ ∧ InR .i64 r.2.relations ∧ InR .i64 r.2.e
set_option maxHeartbeats 4000000 in
set_option maxRecDepth 100000 in
theorem condition_parser_peek_w {u : World} {m0 : Mem} {S : Segs} {w : World} (N : Nat) {pb0 : Nat} (x0 : Parser) (l1 : x0.s.length ≤ LIMS) (r2 : InR .i64 x0.at_) (r3 : InR .i64 x0.relations) (r4 : InR .i64 x0.e) {r : (List UInt8) × Parser} (hF : condition_parser_peek N x0 = some r) (hG : Glob u) (ok : Ok u m0 ([(pb0, Obj.cells [(Value.string (bs x0.s)), (Value.int .i64 x0.at_), (Value.int .i64 x0.relations), (Value.int .i64 x0.e)].toArray 61 (0, 0))] :: S) w) :
    Calls Tryz.prog 65 [Value.pointer (some ⟨pb0, 0, none⟩)].toArray w fun e w' => (e = .returned (.string (bs r.1)) ∧ Ok u m0 ([(pb0, Obj.cells [(Value.string (bs r.2.s)), (Value.int .i64 r.2.at_), (Value.int .i64 r.2.relations), (Value.int .i64 r.2.e)].toArray 61 (0, 0))] :: S) w') ∧ r.1.length ≤ LIMS ∧ r.2.s.length ≤ LIMS ∧ InR .i64 r.2.at_ ∧ InR .i64 r.2.relations ∧ InR .i64 r.2.e := by
  have hb0 := ok.base
  have le_m0 := Mem.le.refl m0
  unfold condition_parser_peek at hF
  have fin : ∀ a w, condition_parser_peek_R u m0 S pb0 x0 r a w → bodyPost Tryz.prog Tryz.f65 (fun e w' => (e = .returned (.string (bs r.1)) ∧ Ok u m0 ([(pb0, Obj.cells [(Value.string (bs r.2.s)), (Value.int .i64 r.2.at_), (Value.int .i64 r.2.relations), (Value.int .i64 r.2.e)].toArray 61 (0, 0))] :: S) w') ∧ r.1.length ≤ LIMS ∧ r.2.s.length ≤ LIMS ∧ InR .i64 r.2.at_ ∧ InR .i64 r.2.relations ∧ InR .i64 r.2.e) .ret a w := by
    intro a w h
    obtain ⟨ok, hd, hrv, h0, h1, h2, h3, h4⟩ := h
    exact c_ret2 [.t 2 (.string (bs r.1))] hd rfl hrv ⟨⟨rfl, ok⟩, h0, h1, h2, h3, h4⟩
  refine enter Tryz.func65 rfl rfl rfl fun a E => ?_
  refine wp_seq ?_
  refine c_region ?_
  refine l_val E ok (y_assign rfl) rfl rfl fun a E => ?_
  refine wpList_nil ?_
  refine t_norm ?_
  refine wp_seq ?_
  refine c_region ?_
  refine l_val E ok (y_move rfl) rfl rfl fun a E => ?_
  obtain ⟨r9, e10, hF⟩ := bnd hF
  refine l_call E go_39 rfl (condition_parser_skip_w N x0 l1 r2 r3 r4 e10 hG ok) rfl rfl ?_
  rintro _ w ⟨⟨rfl, ok⟩, l11, r12, r13, r14⟩
  refine ⟨_, rfl, fun a E => ?_⟩
  refine wpList_nil ?_
  refine t_norm ?_
  refine wp_seq ?_
  refine c_draw (by kernel_rfl) (by kernel_rfl) ok ?_
  refine q_val E (y_move rfl) rfl rfl fun a E => ?_
  refine q_val E (y_nilCheck rfl) rfl rfl fun a E => ?_
  refine q_val E (y_fieldAddr fo_61_0 rfl) rfl rfl fun a E => ?_
  refine q_val E (y_load one_9 rfl (Holds.own 0 rfl rfl)) rfl rfl fun a E => ?_
  refine q_val E (y_move rfl) rfl rfl fun a E => ?_
  refine q_val E (y_nilCheck rfl) rfl rfl fun a E => ?_
  refine q_val E (y_fieldAddr fo_61_1 rfl) rfl rfl fun a E => ?_
  refine q_val E (y_load one_3 rfl (Holds.own 0 rfl rfl)) rfl rfl fun a E => ?_
  obtain ⟨s15, e16, hF⟩ := bnd hF
  refine q_val E (y_sslice Tryz.underlying9 e16 rfl ⟨_, rfl⟩ rfl) rfl rfl fun a E => ?_
  refine q_val E (y_assign rfl) rfl rfl fun a E => ?_
  refine wpQuiet_nil ?_
  intro w ok
  refine t_norm ?_
  refine wp_seq ?_
  refine wp_block ?_
  refine wp_seq ?_
  refine c_region ?_
  refine l_val E ok (y_move rfl) rfl rfl fun a E => ?_
  refine l_val E ok (y_seql rfl rfl) rfl rfl fun a E => ?_
  refine l_val E ok (y_assign rfl) rfl rfl fun a E => ?_
  refine wpList_nil ?_
  refine t_norm ?_
  refine c_if E rfl (fun hc17 => ?_) (fun hc17 => ?_)
  · replace hF := cond_t hc17 hF
    refine wp_seq ?_
    refine c_region ?_
    refine l_val E ok (y_assign rfl) rfl rfl fun a E => ?_
    refine wpList_nil ?_
    refine t_norm ?_
    refine wp_ret ?_
    refine b_ret ?_
    refine t_ret ?_
    have hret : condition_parser_peek_R u m0 S pb0 x0 ([], r9) a w := ⟨ok, E.d, ⟨rv_t E rfl, trivial⟩, (show ([] : List UInt8).length ≤ LIMS by decide), l11, r12, r13, r14⟩
    obtain rfl := Option.some.inj hF
    exact fin _ _ hret
  replace hF := cond_f hc17 hF
  refine wp_seq ?_
  refine c_region ?_
  refine l_val E ok (y_move rfl) rfl rfl fun a E => ?_
  obtain ⟨c18, e19, hF⟩ := bnd hF
  refine l_val E ok (y_index Tryz.underlying9 rfl rfl e19) rfl rfl fun a E => ?_
  obtain ⟨r20, e21, hF⟩ := bnd hF
  refine l_call E go_87 rfl (condition_letter_w N (c18.toNat : Int) (InR.byte c18) e21 hG ok) rfl rfl ?_
  rintro _ w ⟨rfl, ok⟩
  refine ⟨_, rfl, fun a E => ?_⟩
  refine l_val E ok (y_assign rfl) rfl rfl fun a E => ?_
  refine wpList_nil ?_
  refine t_norm ?_
  refine c_if E rfl (fun hc22 => ?_) (fun hc22 => ?_)
  · replace hF := cond_t hc22 hF
    refine wp_seq ?_
    refine c_region ?_
    refine l_val E ok (y_move rfl) rfl rfl fun a E => ?_
    obtain ⟨r23, e24, hF⟩ := bnd hF
    refine l_call E go_88 rfl (condition_run__87_w N s15 (Nat.le_trans (slc_len e16) l11) e24 hG ok) rfl rfl ?_
    rintro _ w ⟨⟨rfl, ok⟩, l25⟩
    refine ⟨_, rfl, fun a E => ?_⟩
    refine l_val E ok (y_assign rfl) rfl rfl fun a E => ?_
    refine wpList_nil ?_
    refine t_norm ?_
    refine wp_ret ?_
    refine b_ret ?_
    refine t_ret ?_
    have hret : condition_parser_peek_R u m0 S pb0 x0 (r23, r9) a w := ⟨ok, E.d, ⟨rv_t E rfl, trivial⟩, l25, l11, r12, r13, r14⟩
    obtain rfl := Option.some.inj hF
    exact fin _ _ hret
  replace hF := cond_f hc22 hF
  refine wp_seq ?_
  refine c_region ?_
  refine l_val E ok (y_move rfl) rfl rfl fun a E => ?_
  obtain ⟨c26, e27, hF⟩ := bnd hF
  refine l_val E ok (y_index Tryz.underlying9 rfl rfl e27) rfl rfl fun a E => ?_
  obtain ⟨r28, e29, hF⟩ := bnd hF
  refine l_call E go_89 rfl (condition_digit_w N (c26.toNat : Int) (InR.byte c26) e29 hG ok) rfl rfl ?_
  rintro _ w ⟨rfl, ok⟩
  refine ⟨_, rfl, fun a E => ?_⟩
  refine l_val E ok (y_assign rfl) rfl rfl fun a E => ?_
  refine wpList_nil ?_
  refine t_norm ?_
  refine c_if E rfl (fun hc30 => ?_) (fun hc30 => ?_)
  · replace hF := cond_t hc30 hF
    refine wp_seq ?_
    refine c_region ?_
    refine l_val E ok (y_move rfl) rfl rfl fun a E => ?_
    obtain ⟨r31, e32, hF⟩ := bnd hF
    refine l_call E go_88 rfl (condition_run__89_w N s15 (Nat.le_trans (slc_len e16) l11) e32 hG ok) rfl rfl ?_
    rintro _ w ⟨⟨rfl, ok⟩, l33⟩
    refine ⟨_, rfl, fun a E => ?_⟩
    refine l_val E ok (y_assign rfl) rfl rfl fun a E => ?_
    refine wpList_nil ?_
    refine t_norm ?_
    refine wp_ret ?_
    refine b_ret ?_
    refine t_ret ?_
    have hret : condition_parser_peek_R u m0 S pb0 x0 (r31, r9) a w := ⟨ok, E.d, ⟨rv_t E rfl, trivial⟩, l33, l11, r12, r13, r14⟩
    obtain rfl := Option.some.inj hF
    exact fin _ _ hret
  replace hF := cond_f hc30 hF
  refine wp_skip ?_
  refine b_norm ?_
  refine t_norm ?_
  refine wp_seq ?_
  refine wp_seq ?_
  refine c_region ?_
  refine l_slit (R := pS) (xo := [.const (Value.string (bs ([46, 46]))), .const (Value.string (bs ([33, 61]))), .const (Value.string (bs ([37]))), .const (Value.string (bs ([61]))), .const (Value.string (bs ([44])))]) (xs := ([[46, 46], [33, 61], [37], [61], [44]] : List (List UInt8))) E ok sl_56 zero_9 rfl ⟨⟨_, rfl, rfl, (pS_mk (show ([46, 46] : List UInt8).length ≤ LIMS by decide))⟩, ⟨_, rfl, rfl, (pS_mk (show ([33, 61] : List UInt8).length ≤ LIMS by decide))⟩, ⟨_, rfl, rfl, (pS_mk (show ([37] : List UInt8).length ≤ LIMS by decide))⟩, ⟨_, rfl, rfl, (pS_mk (show ([61] : List UInt8).length ≤ LIMS by decide))⟩, ⟨_, rfl, rfl, (pS_mk (show ([44] : List UInt8).length ≤ LIMS by decide))⟩, trivial⟩ rfl rfl rfl rfl fun c34 M35 a w E ok h36 => ?_
  refine l_val E ok (y_lenR sl_56 h36 rfl) rfl rfl fun a E => ?_
  refine l_val E ok (y_move rfl) rfl rfl fun a E => ?_
  refine wpList_nil ?_
  refine t_norm ?_
  refine wp_block ?_
  obtain ⟨o38, hL, hF⟩ := bnd hF
  refine c_loop _ (fun (s : Int) a w => Ok u m0 (M35 :: [(pb0, Obj.cells [(Value.string (bs r9.s)), (Value.int .i64 r9.at_), (Value.int .i64 r9.relations), (Value.int .i64 r9.e)].toArray 61 (0, 0))] :: S) w ∧ Env 43 a [(3, (Value.string (bs s15))), (32, c34), (33, (Value.int .i64 (([[46, 46], [33, 61], [37], [61], [44]] : List (List UInt8)).length : Int))), (34, (Value.int .i64 s))] ∧ InR .i64 s) (fun (b : (Unit ⊕ ((List UInt8) × Parser))) e a w => (Sum.elim (fun b57 => e = (.exit 1) ∧ Ok u m0 (M35 :: [(pb0, Obj.cells [(Value.string (bs r9.s)), (Value.int .i64 r9.at_), (Value.int .i64 r9.relations), (Value.int .i64 r9.e)].toArray 61 (0, 0))] :: S) w ∧ Env 43 a []) (fun b58 => e = .ret ∧ condition_parser_peek_R u m0 S pb0 x0 b58 a w)) b) ?_ ?_ N _ a w hL ⟨ok, E.keep [3, 32, 33, 34], (show InR .i64 (0) by decide)⟩
  rotate_left
  · intro e a w _ hO
    rcases o38 with o38 | o38
    rotate_left
    · replace hF := elim_r hF
      obtain ⟨rfl, hret⟩ := hO
      refine b_ret ?_
      refine t_ret ?_
      obtain rfl := Option.some.inj hF
      exact fin _ _ hret
    replace hF := elim_l hF
    obtain ⟨rfl, ok, E⟩ := hO
    refine b_hit ?_
    refine t_norm ?_
    refine wp_seq ?_
    refine c_region ?_
    refine l_val E ok (y_assign rfl) rfl rfl fun a E => ?_
    refine wpList_nil ?_
    refine t_norm ?_
    refine wp_ret ?_
    have hret : condition_parser_peek_R u m0 S pb0 x0 ([], r9) a w := ⟨ok.drop, E.d, ⟨rv_t E rfl, trivial⟩, (show ([] : List UInt8).length ≤ LIMS by decide), l11, r12, r13, r14⟩
    obtain rfl := Option.some.inj hF
    exact fin _ _ hret
  rintro x_40 a w r ⟨ok, E, r41⟩ hF
  replace hF : condition_parser_peek_b1 N r9 s15 x_40 = some r := hF
  unfold condition_parser_peek_b1 at hF
  refine wp_seq ?_
  refine c_region ?_
  refine l_val E ok (y_lss rfl rfl) rfl rfl fun a E => ?_
  refine wpList_nil ?_
  refine t_norm ?_
  refine wp_seq ?_
  refine c_if E rfl (fun hc42 => ?_) (fun hc42 => ?_)
  rotate_left
  · replace hF := cond_f hc42 hF
    refine wp_exit ?_
    refine t_exit ?_
    obtain rfl := Option.some.inj hF
    exact step_o (by nofun) (sl ⟨rfl, ⟨ok, E.keep []⟩⟩)
  replace hF := cond_t hc42 hF
  refine wp_skip ?_
  refine t_norm ?_
  refine wp_seq ?_
  refine wp_block ?_
  refine wp_seq ?_
  refine c_region ?_
  obtain ⟨x43, e44, hF⟩ := bnd hF
  obtain ⟨b45, o46, hp47, yy48⟩ := orowAt sl_56 h36 e44 (P := Tryz.prog) (X := .tmp 32) (I := .tmp 34) (kd := .i64) (ev_of E rfl) (ev_of E rfl)
  refine l_val E ok (yy48 _ _) rfl rfl fun a E => ?_
  obtain ⟨es49, hl50, rr51, hh52⟩ := orowGet h36 e44 hp47 (by decide)
  obtain ⟨rfl, l53⟩ := rr51
  refine l_val E ok (y_load one_9 rfl (hh52 _ _ _ 0 rfl)) rfl rfl fun a E => ?_
  refine l_val E ok (y_assign rfl) rfl rfl fun a E => ?_
  refine wpList_nil ?_
  refine t_norm ?_
  refine wp_seq ?_
  refine c_region ?_
  refine l_val E ok (y_move rfl) rfl rfl fun a E => ?_
  refine l_val E ok (y_move rfl) rfl rfl fun a E => ?_
  obtain ⟨r54, e55, hF⟩ := bnd hF
  refine l_call E go_90 rfl (strings_HasPrefix_w N s15 (Nat.le_trans (slc_len e16) l11) x43 l53 e55 hG ok) rfl rfl ?_
  rintro _ w ⟨rfl, ok⟩
  refine ⟨_, rfl, fun a E => ?_⟩
  refine wpList_nil ?_
  refine t_norm ?_
  refine c_if E rfl (fun hc56 => ?_) (fun hc56 => ?_)
  rotate_left
  · replace hF := cond_f hc56 hF
    refine wp_skip ?_
    refine b_norm ?_
    refine t_norm ?_
    refine c_region ?_
    refine l_val E ok (y_add rfl rfl (InR.inc r41 (ORow.InR h36) hc42)) rfl rfl fun a E => ?_
    refine l_val E ok (y_move rfl) rfl rfl fun a E => ?_
    refine wpList_nil ?_
    obtain rfl := Option.some.inj hF
    exact step_n ⟨ok, E.keep [3, 32, 33, 34], (InR.inc r41 (ORow.InR h36) hc42)⟩
  replace hF := cond_t hc56 hF
  refine wp_seq ?_
  refine c_region ?_
  refine l_val E ok (y_move rfl) rfl rfl fun a E => ?_
  refine l_val E ok (y_assign rfl) rfl rfl fun a E => ?_
  refine wpList_nil ?_
  refine t_norm ?_
  refine wp_ret ?_
  refine b_ret ?_
  refine t_ret ?_
  have hret : condition_parser_peek_R u m0 S pb0 x0 (x43, r9) a w := ⟨ok.drop, E.d, ⟨rv_t E rfl, trivial⟩, l53, l11, r12, r13, r14⟩
  obtain rfl := Option.some.inj hF
  exact step_o (by nofun) (sr ⟨rfl, hret⟩)

def condition_parser_next_R (u : World) (m0 : Mem) (S : Segs) (pb0 : Nat) (x0 : Parser) (r : Bool × Parser) (a : Act) (w : World) : Prop :=
  Ok u m0 ([(pb0, Obj.cells [(Value.string (bs r.2.s)), (Value.int .i64 r.2.at_), (Value.int .i64 r.2.relations), (Value.int .i64 r.2.e)].toArray 61 (0, 0))] :: S) w ∧ a.defers = [] ∧ RVs Tryz.prog a w [.t 4 (.bool r.1)] ∧ r.2.s.length ≤ LIMS ∧ InR .i64 r.2.at_ ∧ InR .i64 r.2.relations ∧ InR .i64 r.2.e
set_option maxHeartbeats 4000000 in
set_option maxRecDepth 100000 in
theorem condition_parser_next_w {u : World} {m0 : Mem} {S : Segs} {w : World} (N : Nat) (t_1 : List UInt8) (lt_1 : t_1.length ≤ LIMS) {pb0 : Nat} (x0 : Parser) (l1 : x0.s.length ≤ LIMS) (r2 : InR .i64 x0.at_) (r3 : InR .i64 x0.relations) (r4 : InR .i64 x0.e) {r : Bool × Parser} (hF : condition_parser_next N t_1 x0 = some r) (hG : Glob u) (ok : Ok u m0 ([(pb0, Obj.cells [(Value.string (bs x0.s)), (Value.int .i64 x0.at_), (Value.int .i64 x0.relations), (Value.int .i64 x0.e)].toArray 61 (0, 0))] :: S) w) :
    Calls Tryz.prog 37 [Value.pointer (some ⟨pb0, 0, none⟩), Value.string (bs t_1)].toArray w fun e w' => (e = .returned (.bool r.1) ∧ Ok u m0 ([(pb0, Obj.cells [(Value.string (bs r.2.s)), (Value.int .i64 r.2.at_), (Value.int .i64 r.2.relations), (Value.int .i64 r.2.e)].toArray 61 (0, 0))] :: S) w') ∧ r.2.s.length ≤ LIMS ∧ InR .i64 r.2.at_ ∧ InR .i64 r.2.relations ∧ InR .i64 r.2.e := by
  have hb0 := ok.base
  have le_m0 := Mem.le.refl m0
  unfold condition_parser_next at hF
  have fin : ∀ a w, condition_parser_next_R u m0 S pb0 x0 r a w → bodyPost Tryz.prog Tryz.f37 (fun e w' => (e = .returned (.bool r.1) ∧ Ok u m0 ([(pb0, Obj.cells [(Value.string (bs r.2.s)), (Value.int .i64 r.2.at_), (Value.int .i64 r.2.relations), (Value.int .i64 r.2.e)].toArray 61 (0, 0))] :: S) w') ∧ r.2.s.length ≤ LIMS ∧ InR .i64 r.2.at_ ∧ InR .i64 r.2.relations ∧ InR .i64 r.2.e) .ret a w := by
    intro a w h
    obtain ⟨ok, hd, hrv, h0, h1, h2, h3⟩ := h
    exact c_ret2 [.t 4 (.bool r.1)] hd rfl hrv ⟨⟨rfl, ok⟩, h0, h1, h2, h3⟩
  refine enter Tryz.func37 rfl rfl rfl fun a E => ?_
  refine wp_seq ?_
  refine c_region ?_
  refine l_val E ok (y_assign rfl) rfl rfl fun a E => ?_
  refine wpList_nil ?_
  refine t_norm ?_
  refine wp_seq ?_
  refine wp_seq ?_
  refine c_region ?_
  refine l_val E ok (y_move rfl) rfl rfl fun a E => ?_
  refine l_val E ok (y_nilCheck rfl) rfl rfl fun a E => ?_
  refine l_val E ok (y_fieldAddr fo_61_3 rfl) rfl rfl fun a E => ?_
  refine l_val E ok (y_load one_26 rfl (Holds.own 0 rfl rfl)) rfl rfl fun a E => ?_
  refine l_val E ok (y_neq rfl rfl) rfl rfl fun a E => ?_
  refine l_val E ok (y_move rfl) rfl rfl fun a E => ?_
  refine bsplit (x0.e != 0) (fun hc9 => ?_) (fun hc9 => ?_)
  · replace hF := cond_t hc9 hF
    replace E := E.upd 10 hc9 rfl
    refine l_skip E rfl rfl fun a E => ?_
    refine l_skip E rfl rfl fun a E => ?_
    refine l_skip E rfl rfl fun a E => ?_
    refine l_skip E rfl rfl fun a E => ?_
    refine l_val E ok (y_pickT rfl rfl) rfl rfl fun a E => ?_
    refine wpList_nil ?_
    refine t_norm ?_
    refine c_if E rfl (fun _ => ?_) (fun h => by cases h)
    refine wp_seq ?_
    refine c_region ?_
    refine l_val E ok (y_assign rfl) rfl rfl fun a E => ?_
    refine wpList_nil ?_
    refine t_norm ?_
    refine wp_ret ?_
    refine t_ret ?_
    have hret : condition_parser_next_R u m0 S pb0 x0 (false, x0) a w := ⟨ok, E.d, ⟨rv_t E rfl, trivial⟩, l1, r2, r3, r4⟩
    obtain rfl := Option.some.inj hF
    exact fin _ _ hret
  replace hF := cond_f hc9 hF
  replace E := E.upd 10 hc9 rfl
  refine l_val E ok (y_move rfl) rfl rfl fun a E => ?_
  obtain ⟨r10, e11, hF⟩ := bnd hF
  refine l_call E go_65 rfl (condition_parser_peek_w N x0 l1 r2 r3 r4 e11 hG ok) rfl rfl ?_
  rintro _ w ⟨⟨rfl, ok⟩, l12, l13, r14, r15, r16⟩
  refine ⟨_, rfl, fun a E => ?_⟩
  refine l_val E ok (y_move rfl) rfl rfl fun a E => ?_
  refine l_val E ok (y_sneq rfl rfl) rfl rfl fun a E => ?_
  refine l_val E ok (y_pickF rfl rfl) rfl rfl fun a E => ?_
  refine wpList_nil ?_
  refine t_norm ?_
  refine c_if E rfl (fun hc17 => ?_) (fun hc17 => ?_)
  · replace hF := cond_t hc17 hF
    refine wp_seq ?_
    refine c_region ?_
    refine l_val E ok (y_assign rfl) rfl rfl fun a E => ?_
    refine wpList_nil ?_
    refine t_norm ?_
    refine wp_ret ?_
    refine t_ret ?_
    have hret : condition_parser_next_R u m0 S pb0 x0 (false, r10.2) a w := ⟨ok, E.d, ⟨rv_t E rfl, trivial⟩, l13, r14, r15, r16⟩
    obtain rfl := Option.some.inj hF
    exact fin _ _ hret
  replace hF := cond_f hc17 hF
  refine wp_skip ?_
  refine t_norm ?_
  refine wp_seq ?_
  refine c_region ?_
  refine l_val E ok (y_move rfl) rfl rfl fun a E => ?_
  refine l_val E ok (y_nilCheck rfl) rfl rfl fun a E => ?_
  refine l_val E ok (y_fieldAddr fo_61_1 rfl) rfl rfl fun a E => ?_
  refine l_val E ok (y_load one_3 rfl (Holds.own 0 rfl rfl)) rfl rfl fun a E => ?_
  refine l_val E ok (y_move rfl) rfl rfl fun a E => ?_
  refine l_val E ok (y_slen Tryz.underlying9 rfl) rfl rfl fun a E => ?_
  refine l_val E ok (y_addw rfl rfl) rfl rfl fun a E => ?_
  refine l_val E ok (y_nilCheck rfl) rfl rfl fun a E => ?_
  refine l_val E ok (y_fieldAddr fo_61_1 rfl) rfl rfl fun a E => ?_
  refine l_storeB E ok 0 rfl rfl rfl inf_3 rfl rfl ⟨rfl, trivial⟩ rfl rfl fun w ok => ?_
  refine wpList_nil ?_
  refine t_norm ?_
  refine wp_seq ?_
  refine c_region ?_
  refine l_val E ok (y_assign rfl) rfl rfl fun a E => ?_
  refine wpList_nil ?_
  refine t_norm ?_
  refine wp_ret ?_
  have hret : condition_parser_next_R u m0 S pb0 x0 (true, (Parser.mk r10.2.s (IntKind.wrap .i64 (r10.2.at_ + (t_1.length : Int))) r10.2.relations r10.2.e)) a w := ⟨ok, E.d, ⟨rv_t E rfl, trivial⟩, l13, (InR.wrap _ _), r15, r16⟩
  obtain rfl := Option.some.inj hF
  exact fin _ _ hret

def condition_parser_fail_R (u : World) (m0 : Mem) (S : Segs) (pb0 : Nat) (x0 : Parser) (r : Parser) (a : Act) (w : World) : Prop :=
  Ok u m0 ([(pb0, Obj.cells [(Value.string (bs r.s)), (Value.int .i64 r.at_), (Value.int .i64 r.relations), (Value.int .i64 r.e)].toArray 61 (0, 0))] :: S) w ∧ a.defers = [] ∧ RVs Tryz.prog a w [] ∧ r.s.length ≤ LIMS ∧ InR .i64 r.at_ ∧ InR .i64 r.relations ∧ InR .i64 r.e
set_option maxHeartbeats 4000000 in
set_option maxRecDepth 100000 in
theorem condition_parser_fail_w {u : World} {m0 : Mem} {S : Segs} {w : World} (N : Nat) (e_1 : Int) (re_1 : InR .i64 e_1) {pb0 : Nat} (x0 : Parser) (l1 : x0.s.length ≤ LIMS) (r2 : InR .i64 x0.at_) (r3 : InR .i64 x0.relations) (r4 : InR .i64 x0.e) {r : Parser} (hF : condition_parser_fail N e_1 x0 = some r) (hG : Glob u) (ok : Ok u m0 ([(pb0, Obj.cells [(Value.string (bs x0.s)), (Value.int .i64 x0.at_), (Value.int .i64 x0.relations), (Value.int .i64 x0.e)].toArray 61 (0, 0))] :: S) w) :
    Calls Tryz.prog 40 [Value.pointer (some ⟨pb0, 0, none⟩), Value.int .i64 e_1].toArray w fun e w' => (e = .returned (.tuple [].toArray) ∧ Ok u m0 ([(pb0, Obj.cells [(Value.string (bs r.s)), (Value.int .i64 r.at_), (Value.int .i64 r.relations), (Value.int .i64 r.e)].toArray 61 (0, 0))] :: S) w') ∧ r.s.length ≤ LIMS ∧ InR .i64 r.at_ ∧ InR .i64 r.relations ∧ InR .i64 r.e := by
  have hb0 := ok.base
  have le_m0 := Mem.le.refl m0
  unfold condition_parser_fail at hF
  have fin : ∀ a w, condition_parser_fail_R u m0 S pb0 x0 r a w → bodyPost Tryz.prog Tryz.f40 (fun e w' => (e = .returned (.tuple [].toArray) ∧ Ok u m0 ([(pb0, Obj.cells [(Value.string (bs r.s)), (Value.int .i64 r.at_), (Value.int .i64 r.relations), (Value.int .i64 r.e)].toArray 61 (0, 0))] :: S) w') ∧ r.s.length ≤ LIMS ∧ InR .i64 r.at_ ∧ InR .i64 r.relations ∧ InR .i64 r.e) .ret a w := by
    intro a w h
    obtain ⟨ok, hd, hrv, h0, h1, h2, h3⟩ := h
    exact c_ret2 [] hd rfl hrv ⟨⟨rfl, ok⟩, h0, h1, h2, h3⟩
  refine enter Tryz.func40 rfl rfl rfl fun a E => ?_
  refine wp_seq ?_
  refine c_region ?_
  refine l_val E ok (y_move rfl) rfl rfl fun a E => ?_
  refine l_val E ok (y_nilCheck rfl) rfl rfl fun a E => ?_
  refine l_val E ok (y_fieldAddr fo_61_3 rfl) rfl rfl fun a E => ?_
  refine l_val E ok (y_load one_26 rfl (Holds.own 0 rfl rfl)) rfl rfl fun a E => ?_
  refine l_val E ok (y_eql rfl rfl) rfl rfl fun a E => ?_
  refine wpList_nil ?_
  refine t_norm ?_
  refine c_if E rfl (fun hc9 => ?_) (fun hc9 => ?_)
  rotate_left
  · replace hF := cond_f hc9 hF
    refine wp_skip ?_
    have hret : condition_parser_fail_R u m0 S pb0 x0 x0 a w := ⟨ok, E.d, trivial, l1, r2, r3, r4⟩
    obtain rfl := Option.some.inj hF
    exact fin _ _ hret
  replace hF := cond_t hc9 hF
  refine c_region ?_
  refine l_val E ok (y_move rfl) rfl rfl fun a E => ?_
  refine l_val E ok (y_move rfl) rfl rfl fun a E => ?_
  refine l_val E ok (y_nilCheck rfl) rfl rfl fun a E => ?_
  refine l_val E ok (y_fieldAddr fo_61_3 rfl) rfl rfl fun a E => ?_
  refine l_storeB E ok 0 rfl rfl rfl inf_26 rfl rfl ⟨rfl, trivial⟩ rfl rfl fun w ok => ?_
  refine wpList_nil ?_
  have hret : condition_parser_fail_R u m0 S pb0 x0 (Parser.mk x0.s x0.at_ x0.relations e_1) a w := ⟨ok, E.d, trivial, l1, r2, r3, re_1⟩
  obtain rfl := Option.some.inj hF
  exact fin _ _ hret

theorem strings_Index_w {u : World} {m0 : Mem} {S : Segs} {w : World} (N : Nat) (p0_0 : List UInt8) (lp0_0 : p0_0.length ≤ LIMS) (p1_1 : List UInt8) (lp1_1 : p1_1.length ≤ LIMS) {r : Int} (hF : strings_Index N p0_0 p1_1 = some r) (hG : Glob u) (ok : Ok u m0 S w) :
    Calls Tryz.prog 66 [Value.string (bs p0_0), Value.string (bs p1_1)].toArray w fun e w' => (e = .returned (.int .i64 r) ∧ Ok u m0 S w') ∧ InR .i64 r := by
  obtain ⟨mx, hmx⟩ := hG
  exact lib_Index Tryz.lays143 hmx p0_0 p1_1 hF ok

def slices_Index_string_string_R (u : World) (m0 : Mem) (S : Segs) (r : Int) (a : Act) (w : World) : Prop :=
  Ok u m0 S w ∧ a.defers = [] ∧ RVs Tryz.prog a w [.t 4 (.int .i64 r)] ∧ InR .i64 r
set_option maxHeartbeats 4000000 in
set_option maxRecDepth 100000 in
theorem slices_Index_string_string_w {u : World} {m0 : Mem} {S : Segs} {w : World} (N : Nat) (vs_0 : Value) (s_0 : List (List UInt8)) (hs_0 : (pL 1 pS) m0 [vs_0] s_0) (v_1 : List UInt8) (lv_1 : v_1.length ≤ LIMS) {r : Int} (hF : slices_Index_string_string N s_0 v_1 = some r) (hG : Glob u) (ok : Ok u m0 S w) :
    Calls Tryz.prog 114 [vs_0, Value.string (bs v_1)].toArray w fun e w' => (e = .returned (.int .i64 r) ∧ Ok u m0 S w') ∧ InR .i64 r := by
  have hb0 := ok.base
  have le_m0 := Mem.le.refl m0
  unfold slices_Index_string_string at hF
  have fin : ∀ a w, slices_Index_string_string_R u m0 S r a w → bodyPost Tryz.prog Tryz.f114 (fun e w' => (e = .returned (.int .i64 r) ∧ Ok u m0 S w') ∧ InR .i64 r) .ret a w := by
    intro a w h
    obtain ⟨ok, hd, hrv, h0⟩ := h
    exact c_ret2 [.t 4 (.int .i64 r)] hd rfl hrv ⟨⟨rfl, ok⟩, h0⟩
  refine enter Tryz.func114 rfl rfl rfl fun a E => ?_
  refine wp_seq ?_
  refine c_region ?_
  refine l_val E ok (y_assign rfl) rfl rfl fun a E => ?_
  refine wpList_nil ?_
  refine t_norm ?_
  refine wp_seq ?_
  refine wp_seq ?_
  refine c_region ?_
  refine l_val E ok (y_move rfl) rfl rfl fun a E => ?_
  refine l_val E ok (y_lenL sl_56 hs_0 rfl) rfl rfl fun a E => ?_
  refine l_val E ok (y_move rfl) rfl rfl fun a E => ?_
  refine wpList_nil ?_
  refine t_norm ?_
  refine wp_block ?_
  obtain ⟨o2, hL, hF⟩ := bnd hF
  refine c_loop _ (fun (s : Int) a w => Ok u m0 (S) w ∧ Env 19 a [(0, vs_0), (1, (Value.string (bs v_1))), (7, (Value.int .i64 (s_0.length : Int))), (8, (Value.int .i64 s))] ∧ InR .i64 s) (fun (b : (Unit ⊕ Int)) e a w => (Sum.elim (fun b18 => e = (.exit 0) ∧ Ok u m0 (S) w ∧ Env 19 a []) (fun b19 => e = .ret ∧ slices_Index_string_string_R u m0 S b19 a w)) b) ?_ ?_ N _ a w hL ⟨ok, E.keep [0, 1, 7, 8], (show InR .i64 (0) by decide)⟩
  rotate_left
  · intro e a w _ hO
    rcases o2 with o2 | o2
    rotate_left
    · replace hF := elim_r hF
      obtain ⟨rfl, hret⟩ := hO
      refine b_ret ?_
      refine t_ret ?_
      obtain rfl := Option.some.inj hF
      exact fin _ _ hret
    replace hF := elim_l hF
    obtain ⟨rfl, ok, E⟩ := hO
    refine b_hit ?_
    refine t_norm ?_
    refine wp_seq ?_
    refine c_region ?_
    refine l_val E ok (y_assign rfl) rfl rfl fun a E => ?_
    refine wpList_nil ?_
    refine t_norm ?_
    refine wp_ret ?_
    have hret : slices_Index_string_string_R u m0 S (-1) a w := ⟨ok, E.d, ⟨rv_t E rfl, trivial⟩, (show InR .i64 (-1) by decide)⟩
    obtain rfl := Option.some.inj hF
    exact fin _ _ hret
  rintro x_4 a w r ⟨ok, E, r5⟩ hF
  replace hF : slices_Index_string_string_b1 N s_0 v_1 x_4 = some r := hF
  unfold slices_Index_string_string_b1 at hF
  refine wp_seq ?_
  refine c_region ?_
  refine l_val E ok (y_lss rfl rfl) rfl rfl fun a E => ?_
  refine wpList_nil ?_
  refine t_norm ?_
  refine wp_seq ?_
  refine c_if E rfl (fun hc6 => ?_) (fun hc6 => ?_)
  rotate_left
  · replace hF := cond_f hc6 hF
    refine wp_exit ?_
    refine t_exit ?_
    obtain rfl := Option.some.inj hF
    exact step_o (by nofun) (sl ⟨rfl, ⟨ok, E.keep []⟩⟩)
  replace hF := cond_t hc6 hF
  refine wp_skip ?_
  refine t_norm ?_
  refine wp_seq ?_
  refine wp_block ?_
  refine wp_seq ?_
  refine c_region ?_
  refine l_val E ok (y_move rfl) rfl rfl fun a E => ?_
  refine l_val E ok (y_assign rfl) rfl rfl fun a E => ?_
  refine wpList_nil ?_
  refine t_norm ?_
  refine wp_seq ?_
  refine c_region ?_
  refine l_val E ok (y_move rfl) rfl rfl fun a E => ?_
  refine l_val E ok (y_move rfl) rfl rfl fun a E => ?_
  refine l_val E ok (y_move rfl) rfl rfl fun a E => ?_
  obtain ⟨x7, e8, hF⟩ := bnd hF
  obtain ⟨b9, o10, es11, hl12, rr13, at14, yy15⟩ := idxAt sl_56 hs_0 e8 (P := Tryz.prog) (X := .tmp 12) (I := .tmp 13) (kd := .i64) (ev_of E rfl) (ev_of E rfl)
  obtain ⟨rfl, l16⟩ := rr13
  refine l_val E ok (yy15 _ _) rfl rfl fun a E => ?_
  refine l_val E ok (y_load one_9 rfl (Holds.ro at14)) rfl rfl fun a E => ?_
  refine l_val E ok (y_seql rfl rfl) rfl rfl fun a E => ?_
  refine wpList_nil ?_
  refine t_norm ?_
  refine c_if E rfl (fun hc17 => ?_) (fun hc17 => ?_)
  rotate_left
  · replace hF := cond_f hc17 hF
    refine wp_skip ?_
    refine b_norm ?_
    refine t_norm ?_
    refine c_region ?_
    refine l_val E ok (y_add rfl rfl (InR.inc r5 (pL_InR hs_0) hc6)) rfl rfl fun a E => ?_
    refine l_val E ok (y_move rfl) rfl rfl fun a E => ?_
    refine wpList_nil ?_
    obtain rfl := Option.some.inj hF
    exact step_n ⟨ok, E.keep [0, 1, 7, 8], (InR.inc r5 (pL_InR hs_0) hc6)⟩
  replace hF := cond_t hc17 hF
  refine wp_seq ?_
  refine c_region ?_
  refine l_val E ok (y_move rfl) rfl rfl fun a E => ?_
  refine l_val E ok (y_assign rfl) rfl rfl fun a E => ?_
  refine wpList_nil ?_
  refine t_norm ?_
  refine wp_ret ?_
  refine b_ret ?_
  refine t_ret ?_
  have hret : slices_Index_string_string_R u m0 S x_4 a w := ⟨ok, E.d, ⟨rv_t E rfl, trivial⟩, r5⟩
  obtain rfl := Option.some.inj hF
  exact step_o (by nofun) (sr ⟨rfl, hret⟩)

def slices_Contains_string_string_R (u : World) (m0 : Mem) (S : Segs) (r : Bool) (a : Act) (w : World) : Prop :=
  Ok u m0 S w ∧ a.defers = [] ∧ RVs Tryz.prog a w [.t 4 (.bool r)]
set_option maxHeartbeats 4000000 in
set_option maxRecDepth 100000 in
theorem slices_Contains_string_string_w {u : World} {m0 : Mem} {S : Segs} {w : World} (N : Nat) (vs_0 : Value) (s_0 : List (List UInt8)) (hs_0 : (pL 1 pS) m0 [vs_0] s_0) (v_1 : List UInt8) (lv_1 : v_1.length ≤ LIMS) {r : Bool} (hF : slices_Contains_string_string N s_0 v_1 = some r) (hG : Glob u) (ok : Ok u m0 S w) :
    Calls Tryz.prog 92 [vs_0, Value.string (bs v_1)].toArray w fun e w' => (e = .returned (.bool r) ∧ Ok u m0 S w') := by
  have hb0 := ok.base
  have le_m0 := Mem.le.refl m0
  unfold slices_Contains_string_string at hF
  have fin : ∀ a w, slices_Contains_string_string_R u m0 S r a w → bodyPost Tryz.prog Tryz.f92 (fun e w' => (e = .returned (.bool r) ∧ Ok u m0 S w')) .ret a w := by
    intro a w h
    obtain ⟨ok, hd, hrv⟩ := h
    exact c_ret2 [.t 4 (.bool r)] hd rfl hrv ⟨rfl, ok⟩
  refine enter Tryz.func92 rfl rfl rfl fun a E => ?_
  refine wp_seq ?_
  refine c_region ?_
  refine l_val E ok (y_assign rfl) rfl rfl fun a E => ?_
  refine wpList_nil ?_
  refine t_norm ?_
  refine wp_seq ?_
  refine c_region ?_
  refine l_val E ok (y_move rfl) rfl rfl fun a E => ?_
  refine l_val E ok (y_move rfl) rfl rfl fun a E => ?_
  obtain ⟨r1, e2, hF⟩ := bnd hF
  refine l_call E go_114 rfl (slices_Index_string_string_w N _ s_0 hs_0 v_1 lv_1 e2 hG ok) rfl rfl ?_
  rintro _ w ⟨⟨rfl, ok⟩, r3⟩
  refine ⟨_, rfl, fun a E => ?_⟩
  refine l_val E ok (y_geq rfl rfl) rfl rfl fun a E => ?_
  refine l_val E ok (y_assign rfl) rfl rfl fun a E => ?_
  refine wpList_nil ?_
  refine t_norm ?_
  refine wp_ret ?_
  have hret : slices_Contains_string_string_R u m0 S (decide (r1 ≥ 0)) a w := ⟨ok, E.d, ⟨rv_t E rfl, trivial⟩⟩
  obtain rfl := Option.some.inj hF
  exact fin _ _ hret

def condition_parser_take_R (u : World) (m0 : Mem) (S : Segs) (pb0 : Nat) (x0 : Parser) (r : (List UInt8) × Parser) (a : Act) (w : World) : Prop :=
  Ok u m0 ([(pb0, Obj.cells [(Value.string (bs r.2.s)), (Value.int .i64 r.2.at_), (Value.int .i64 r.2.relations), (Value.int .i64 r.2.e)].toArray 61 (0, 0))] :: S) w ∧ a.defers = [] ∧ RVs Tryz.prog a w [.t 4 (.string (bs r.1))] ∧ r.1.length ≤ LIMS ∧ r.2.s.length ≤ LIMS ∧ InR .i64 r.2.at_ ∧ InR .i64 r.2.relations ∧ InR .i64 r.2.e
set_option maxHeartbeats 4000000 in
set_option maxRecDepth 100000 in
theorem condition_parser_take_w {u : World} {m0 : Mem} {S : Segs} {w : World} (N : Nat) (vl_1 : Value) (l_1 : List (List UInt8)) (hl_1 : (pL 1 pS) m0 [vl_1] l_1) {pb0 : Nat} (x0 : Parser) (l1 : x0.s.length ≤ LIMS) (r2 : InR .i64 x0.at_) (r3 : InR .i64 x0.relations) (r4 : InR .i64 x0.e) {r : (List UInt8) × Parser} (hF : condition_parser_take N l_1 x0 = some r) (hG : Glob u) (ok : Ok u m0 ([(pb0, Obj.cells [(Value.string (bs x0.s)), (Value.int .i64 x0.at_), (Value.int .i64 x0.relations), (Value.int .i64 x0.e)].toArray 61 (0, 0))] :: S) w) :
    Calls Tryz.prog 67 [Value.pointer (some ⟨pb0, 0, none⟩), vl_1].toArray w fun e w' => (e = .returned (.string (bs r.1)) ∧ Ok u m0 ([(pb0, Obj.cells [(Value.string (bs r.2.s)), (Value.int .i64 r.2.at_), (Value.int .i64 r.2.relations), (Value.int .i64 r.2.e)].toArray 61 (0, 0))] :: S) w') ∧ r.1.length ≤ LIMS ∧ r.2.s.length ≤ LIMS ∧ InR .i64 r.2.at_ ∧ InR .i64 r.2.relations ∧ InR .i64 r.2.e := by
  have hb0 := ok.base
  have le_m0 := Mem.le.refl m0
  unfold condition_parser_take at hF
  have fin : ∀ a w, condition_parser_take_R u m0 S pb0 x0 r a w → bodyPost Tryz.prog Tryz.f67 (fun e w' => (e = .returned (.string (bs r.1)) ∧ Ok u m0 ([(pb0, Obj.cells [(Value.string (bs r.2.s)), (Value.int .i64 r.2.at_), (Value.int .i64 r.2.relations), (Value.int .i64 r.2.e)].toArray 61 (0, 0))] :: S) w') ∧ r.1.length ≤ LIMS ∧ r.2.s.length ≤ LIMS ∧ InR .i64 r.2.at_ ∧ InR .i64 r.2.relations ∧ InR .i64 r.2.e) .ret a w := by
    intro a w h
    obtain ⟨ok, hd, hrv, h0, h1, h2, h3, h4⟩ := h
    exact c_ret2 [.t 4 (.string (bs r.1))] hd rfl hrv ⟨⟨rfl, ok⟩, h0, h1, h2, h3, h4⟩
  refine enter Tryz.func67 rfl rfl rfl fun a E => ?_
  refine wp_seq ?_
  refine c_region ?_
  refine l_val E ok (y_assign rfl) rfl rfl fun a E => ?_
  refine wpList_nil ?_
  refine t_norm ?_
  refine wp_seq ?_
  refine c_region ?_
  refine l_val E ok (y_move rfl) rfl rfl fun a E => ?_
  obtain ⟨r9, e10, hF⟩ := bnd hF
  refine l_call E go_65 rfl (condition_parser_peek_w N x0 l1 r2 r3 r4 e10 hG ok) rfl rfl ?_
  rintro _ w ⟨⟨rfl, ok⟩, l11, l12, r13, r14, r15⟩
  refine ⟨_, rfl, fun a E => ?_⟩
  refine l_val E ok (y_assign rfl) rfl rfl fun a E => ?_
  refine wpList_nil ?_
  refine t_norm ?_
  refine wp_seq ?_
  refine wp_seq ?_
  refine c_region ?_
  refine l_val E ok (y_move rfl) rfl rfl fun a E => ?_
  refine l_val E ok (y_nilCheck rfl) rfl rfl fun a E => ?_
  refine l_val E ok (y_fieldAddr fo_61_3 rfl) rfl rfl fun a E => ?_
  refine l_val E ok (y_load one_26 rfl (Holds.own 0 rfl rfl)) rfl rfl fun a E => ?_
  refine l_val E ok (y_eql rfl rfl) rfl rfl fun a E => ?_
  refine l_val E ok (y_move rfl) rfl rfl fun a E => ?_
  refine bsplit (r9.2.e == 0) (fun hc16 => ?_) (fun hc16 => ?_)
  rotate_left
  · replace hF := cond_f hc16 hF
    replace E := E.upd 13 hc16 rfl
    refine l_skip E rfl rfl fun a E => ?_
    refine l_skip E rfl rfl fun a E => ?_
    refine l_skip E rfl rfl fun a E => ?_
    refine l_skip E rfl rfl fun a E => ?_
    refine l_val E ok (y_pickF rfl rfl) rfl rfl fun a E => ?_
    refine wpList_nil ?_
    refine t_norm ?_
    refine c_if E rfl (fun h => by cases h) (fun _ => ?_)
    refine wp_skip ?_
    refine t_norm ?_
    refine wp_seq ?_
    refine wp_seq ?_
    refine c_region ?_
    refine l_val E ok (y_move rfl) rfl rfl fun a E => ?_
    refine l_val E ok (y_nilCheck rfl) rfl rfl fun a E => ?_
    refine l_val E ok (y_fieldAddr fo_61_3 rfl) rfl rfl fun a E => ?_
    refine l_val E ok (y_load one_26 rfl (Holds.own 0 rfl rfl)) rfl rfl fun a E => ?_
    refine l_val E ok (y_neq rfl rfl) rfl rfl fun a E => ?_
    refine wpList_nil ?_
    refine t_norm ?_
    refine c_if E rfl (fun hc36 => ?_) (fun hc36 => ?_)
    · replace hF := cond_t hc36 hF
      refine wp_seq ?_
      refine c_region ?_
      refine l_val E ok (y_assign rfl) rfl rfl fun a E => ?_
      refine wpList_nil ?_
      refine t_norm ?_
      refine wp_ret ?_
      refine t_ret ?_
      have hret : condition_parser_take_R u m0 S pb0 x0 ([], r9.2) a w := ⟨ok, E.d, ⟨rv_t E rfl, trivial⟩, (show ([] : List UInt8).length ≤ LIMS by decide), l12, r13, r14, r15⟩
      obtain rfl := Option.some.inj hF
      exact fin _ _ hret
    replace hF := cond_f hc36 hF
    refine wp_skip ?_
    refine t_norm ?_
    refine wp_seq ?_
    refine c_region ?_
    refine l_val E ok (y_move rfl) rfl rfl fun a E => ?_
    refine l_val E ok (y_nilCheck rfl) rfl rfl fun a E => ?_
    refine l_val E ok (y_fieldAddr fo_61_1 rfl) rfl rfl fun a E => ?_
    refine l_val E ok (y_load one_3 rfl (Holds.own 0 rfl rfl)) rfl rfl fun a E => ?_
    refine l_val E ok (y_move rfl) rfl rfl fun a E => ?_
    refine l_val E ok (y_slen Tryz.underlying9 rfl) rfl rfl fun a E => ?_
    refine l_val E ok (y_addw rfl rfl) rfl rfl fun a E => ?_
    refine l_val E ok (y_nilCheck rfl) rfl rfl fun a E => ?_
    refine l_val E ok (y_fieldAddr fo_61_1 rfl) rfl rfl fun a E => ?_
    refine l_storeB E ok 0 rfl rfl rfl inf_3 rfl rfl ⟨rfl, trivial⟩ rfl rfl fun w ok => ?_
    refine wpList_nil ?_
    refine t_norm ?_
    refine wp_seq ?_
    refine c_region ?_
    refine l_val E ok (y_move rfl) rfl rfl fun a E => ?_
    refine l_val E ok (y_assign rfl) rfl rfl fun a E => ?_
    refine wpList_nil ?_
    refine t_norm ?_
    refine wp_ret ?_
    have hret : condition_parser_take_R u m0 S pb0 x0 (r9.1, (Parser.mk r9.2.s (IntKind.wrap .i64 (r9.2.at_ + (r9.1.length : Int))) r9.2.relations r9.2.e)) a w := ⟨ok, E.d, ⟨rv_t E rfl, trivial⟩, l11, l12, (InR.wrap _ _), r14, r15⟩
    obtain rfl := Option.some.inj hF
    exact fin _ _ hret
  replace hF := cond_t hc16 hF
  replace E := E.upd 13 hc16 rfl
  refine l_val E ok (y_move rfl) rfl rfl fun a E => ?_
  refine l_val E ok (y_move rfl) rfl rfl fun a E => ?_
  obtain ⟨r17, e18, hF⟩ := bnd hF
  refine l_call E go_92 rfl (slices_Contains_string_string_w N _ l_1 hl_1 r9.1 l11 e18 hG ok) rfl rfl ?_
  rintro _ w ⟨rfl, ok⟩
  refine ⟨_, rfl, fun a E => ?_⟩
  refine l_val E ok (y_not rfl) rfl rfl fun a E => ?_
  refine l_val E ok (y_pickT rfl rfl) rfl rfl fun a E => ?_
  refine wpList_nil ?_
  refine t_norm ?_
  obtain ⟨o19, hJ, hF⟩ := bnd hF
  refine c_mono (Q' := fun e a w => e = .normal ∧ Ok u m0 ([(pb0, Obj.cells [(Value.string (bs o19.s)), (Value.int .i64 o19.at_), (Value.int .i64 o19.relations), (Value.int .i64 o19.e)].toArray 61 (0, 0))] :: S) w ∧ Env 36 a [(0, (Value.pointer (some ⟨pb0, 0, none⟩))), (5, (Value.string (bs r9.1)))] ∧ o19.s.length ≤ LIMS ∧ InR .i64 o19.at_ ∧ InR .i64 o19.relations ∧ InR .i64 o19.e) ?_ ?_
  · replace hF := hJ
    clear hJ
    refine c_if E rfl (fun hc24 => ?_) (fun hc24 => ?_)
    rotate_left
    · replace hF := cond_f hc24 hF
      refine wp_skip ?_
      obtain rfl := Option.some.inj hF
      exact ⟨rfl, ⟨ok, E.keep [0, 5], l12, r13, r14, r15⟩⟩
    replace hF := cond_t hc24 hF
    refine c_region ?_
    refine l_val E ok (y_move rfl) rfl rfl fun a E => ?_
    obtain ⟨r25, e26, hF⟩ := bnd hF
    refine l_call E go_40 rfl (condition_parser_fail_w N 3 (show InR .i64 (3) by decide) r9.2 l12 r13 r14 r15 e26 hG ok) rfl rfl ?_
    rintro _ w ⟨⟨rfl, ok⟩, l27, r28, r29, r30⟩
    refine ⟨_, rfl, fun a E => ?_⟩
    refine wpList_nil ?_
    obtain rfl := Option.some.inj hF
    exact ⟨rfl, ⟨ok, E.keep [0, 5], l27, r28, r29, r30⟩⟩
  clear hJ
  intro e a w hO
  obtain ⟨rfl, ok, E, l31, r32, r33, r34⟩ := hO
  refine t_norm ?_
  refine wp_seq ?_
  refine wp_seq ?_
  refine c_region ?_
  refine l_val E ok (y_move rfl) rfl rfl fun a E => ?_
  refine l_val E ok (y_nilCheck rfl) rfl rfl fun a E => ?_
  refine l_val E ok (y_fieldAddr fo_61_3 rfl) rfl rfl fun a E => ?_
  refine l_val E ok (y_load one_26 rfl (Holds.own 0 rfl rfl)) rfl rfl fun a E => ?_
  refine l_val E ok (y_neq rfl rfl) rfl rfl fun a E => ?_
  refine wpList_nil ?_
  refine t_norm ?_
  refine c_if E rfl (fun hc35 => ?_) (fun hc35 => ?_)
  · replace hF := cond_t hc35 hF
    refine wp_seq ?_
    refine c_region ?_
    refine l_val E ok (y_assign rfl) rfl rfl fun a E => ?_
    refine wpList_nil ?_
    refine t_norm ?_
    refine wp_ret ?_
    refine t_ret ?_
    have hret : condition_parser_take_R u m0 S pb0 x0 ([], o19) a w := ⟨ok, E.d, ⟨rv_t E rfl, trivial⟩, (show ([] : List UInt8).length ≤ LIMS by decide), l31, r32, r33, r34⟩
    obtain rfl := Option.some.inj hF
    exact fin _ _ hret
  replace hF := cond_f hc35 hF
  refine wp_skip ?_
  refine t_norm ?_
  refine wp_seq ?_
  refine c_region ?_
  refine l_val E ok (y_move rfl) rfl rfl fun a E => ?_
  refine l_val E ok (y_nilCheck rfl) rfl rfl fun a E => ?_
  refine l_val E ok (y_fieldAddr fo_61_1 rfl) rfl rfl fun a E => ?_
  refine l_val E ok (y_load one_3 rfl (Holds.own 0 rfl rfl)) rfl rfl fun a E => ?_
  refine l_val E ok (y_move rfl) rfl rfl fun a E => ?_
  refine l_val E ok (y_slen Tryz.underlying9 rfl) rfl rfl fun a E => ?_
  refine l_val E ok (y_addw rfl rfl) rfl rfl fun a E => ?_
  refine l_val E ok (y_nilCheck rfl) rfl rfl fun a E => ?_
  refine l_val E ok (y_fieldAddr fo_61_1 rfl) rfl rfl fun a E => ?_
  refine l_storeB E ok 0 rfl rfl rfl inf_3 rfl rfl ⟨rfl, trivial⟩ rfl rfl fun w ok => ?_
  refine wpList_nil ?_
  refine t_norm ?_
  refine wp_seq ?_
  refine c_region ?_
  refine l_val E ok (y_move rfl) rfl rfl fun a E => ?_
  refine l_val E ok (y_assign rfl) rfl rfl fun a E => ?_
  refine wpList_nil ?_
  refine t_norm ?_
  refine wp_ret ?_
  have hret : condition_parser_take_R u m0 S pb0 x0 (r9.1, (Parser.mk o19.s (IntKind.wrap .i64 (o19.at_ + (r9.1.length : Int))) o19.relations o19.e)) a w := ⟨ok, E.d, ⟨rv_t E rfl, trivial⟩, l11, l31, (InR.wrap _ _), r33, r34⟩
  obtain rfl := Option.some.inj hF
  exact fin _ _ hret

def slices_Index_int_int_R (u : World) (m0 : Mem) (S : Segs) (r : Int) (a : Act) (w : World) : Prop :=
  Ok u m0 S w ∧ a.defers = [] ∧ RVs Tryz.prog a w [.t 4 (.int .i64 r)] ∧ InR .i64 r
set_option maxHeartbeats 4000000 in
set_option maxRecDepth 100000 in
theorem slices_Index_int_int_w {u : World} {m0 : Mem} {S : Segs} {w : World} (N : Nat) (vs_0 : Value) (s_0 : List (Int)) (hs_0 : (pL 1 (pI .i64)) m0 [vs_0] s_0) (v_1 : Int) (rv_1 : InR .i64 v_1) {r : Int} (hF : slices_Index_int_int N s_0 v_1 = some r) (hG : Glob u) (ok : Ok u m0 S w) :
    Calls Tryz.prog 117 [vs_0, Value.int .i64 v_1].toArray w fun e w' => (e = .returned (.int .i64 r) ∧ Ok u m0 S w') ∧ InR .i64 r := by
  have hb0 := ok.base
  have le_m0 := Mem.le.refl m0
  unfold slices_Index_int_int at hF
  have fin : ∀ a w, slices_Index_int_int_R u m0 S r a w → bodyPost Tryz.prog Tryz.f117 (fun e w' => (e = .returned (.int .i64 r) ∧ Ok u m0 S w') ∧ InR .i64 r) .ret a w := by
    intro a w h
    obtain ⟨ok, hd, hrv, h0⟩ := h
    exact c_ret2 [.t 4 (.int .i64 r)] hd rfl hrv ⟨⟨rfl, ok⟩, h0⟩
  refine enter Tryz.func117 rfl rfl rfl fun a E => ?_
  refine wp_seq ?_
  refine c_region ?_
  refine l_val E ok (y_assign rfl) rfl rfl fun a E => ?_
  refine wpList_nil ?_
  refine t_norm ?_
  refine wp_seq ?_
  refine wp_seq ?_
  refine c_region ?_
  refine l_val E ok (y_move rfl) rfl rfl fun a E => ?_
  refine l_val E ok (y_lenL sl_79 hs_0 rfl) rfl rfl fun a E => ?_
  refine l_val E ok (y_move rfl) rfl rfl fun a E => ?_
  refine wpList_nil ?_
  refine t_norm ?_
  refine wp_block ?_
  obtain ⟨o2, hL, hF⟩ := bnd hF
  refine c_loop _ (fun (s : Int) a w => Ok u m0 (S) w ∧ Env 19 a [(0, vs_0), (1, (Value.int .i64 v_1)), (7, (Value.int .i64 (s_0.length : Int))), (8, (Value.int .i64 s))] ∧ InR .i64 s) (fun (b : (Unit ⊕ Int)) e a w => (Sum.elim (fun b18 => e = (.exit 0) ∧ Ok u m0 (S) w ∧ Env 19 a []) (fun b19 => e = .ret ∧ slices_Index_int_int_R u m0 S b19 a w)) b) ?_ ?_ N _ a w hL ⟨ok, E.keep [0, 1, 7, 8], (show InR .i64 (0) by decide)⟩
  rotate_left
  · intro e a w _ hO
    rcases o2 with o2 | o2
    rotate_left
    · replace hF := elim_r hF
      obtain ⟨rfl, hret⟩ := hO
      refine b_ret ?_
      refine t_ret ?_
      obtain rfl := Option.some.inj hF
      exact fin _ _ hret
    replace hF := elim_l hF
    obtain ⟨rfl, ok, E⟩ := hO
    refine b_hit ?_
    refine t_norm ?_
    refine wp_seq ?_
    refine c_region ?_
    refine l_val E ok (y_assign rfl) rfl rfl fun a E => ?_
    refine wpList_nil ?_
    refine t_norm ?_
    refine wp_ret ?_
    have hret : slices_Index_int_int_R u m0 S (-1) a w := ⟨ok, E.d, ⟨rv_t E rfl, trivial⟩, (show InR .i64 (-1) by decide)⟩
    obtain rfl := Option.some.inj hF
    exact fin _ _ hret
  rintro x_4 a w r ⟨ok, E, r5⟩ hF
  replace hF : slices_Index_int_int_b1 N s_0 v_1 x_4 = some r := hF
  unfold slices_Index_int_int_b1 at hF
  refine wp_seq ?_
  refine c_region ?_
  refine l_val E ok (y_lss rfl rfl) rfl rfl fun a E => ?_
  refine wpList_nil ?_
  refine t_norm ?_
  refine wp_seq ?_
  refine c_if E rfl (fun hc6 => ?_) (fun hc6 => ?_)
  rotate_left
  · replace hF := cond_f hc6 hF
    refine wp_exit ?_
    refine t_exit ?_
    obtain rfl := Option.some.inj hF
    exact step_o (by nofun) (sl ⟨rfl, ⟨ok, E.keep []⟩⟩)
  replace hF := cond_t hc6 hF
  refine wp_skip ?_
  refine t_norm ?_
  refine wp_seq ?_
  refine wp_block ?_
  refine wp_seq ?_
  refine c_region ?_
  refine l_val E ok (y_move rfl) rfl rfl fun a E => ?_
  refine l_val E ok (y_assign rfl) rfl rfl fun a E => ?_
  refine wpList_nil ?_
  refine t_norm ?_
  refine wp_seq ?_
  refine c_region ?_
  refine l_val E ok (y_move rfl) rfl rfl fun a E => ?_
  refine l_val E ok (y_move rfl) rfl rfl fun a E => ?_
  refine l_val E ok (y_move rfl) rfl rfl fun a E => ?_
  obtain ⟨x7, e8, hF⟩ := bnd hF
  obtain ⟨b9, o10, es11, hl12, rr13, at14, yy15⟩ := idxAt sl_79 hs_0 e8 (P := Tryz.prog) (X := .tmp 12) (I := .tmp 13) (kd := .i64) (ev_of E rfl) (ev_of E rfl)
  obtain ⟨rfl, r16⟩ := rr13
  refine l_val E ok (yy15 _ _) rfl rfl fun a E => ?_
  refine l_val E ok (y_load one_3 rfl (Holds.ro at14)) rfl rfl fun a E => ?_
  refine l_val E ok (y_eql rfl rfl) rfl rfl fun a E => ?_
  refine wpList_nil ?_
  refine t_norm ?_
  refine c_if E rfl (fun hc17 => ?_) (fun hc17 => ?_)
  rotate_left
  · replace hF := cond_f hc17 hF
    refine wp_skip ?_
    refine b_norm ?_
    refine t_norm ?_
    refine c_region ?_
    refine l_val E ok (y_add rfl rfl (InR.inc r5 (pL_InR hs_0) hc6)) rfl rfl fun a E => ?_
    refine l_val E ok (y_move rfl) rfl rfl fun a E => ?_
    refine wpList_nil ?_
    obtain rfl := Option.some.inj hF
    exact step_n ⟨ok, E.keep [0, 1, 7, 8], (InR.inc r5 (pL_InR hs_0) hc6)⟩
  replace hF := cond_t hc17 hF
  refine wp_seq ?_
  refine c_region ?_
  refine l_val E ok (y_move rfl) rfl rfl fun a E => ?_
  refine l_val E ok (y_assign rfl) rfl rfl fun a E => ?_
  refine wpList_nil ?_
  refine t_norm ?_
  refine wp_ret ?_
  refine b_ret ?_
  refine t_ret ?_
  have hret : slices_Index_int_int_R u m0 S x_4 a w := ⟨ok, E.d, ⟨rv_t E rfl, trivial⟩, r5⟩
  obtain rfl := Option.some.inj hF
  exact step_o (by nofun) (sr ⟨rfl, hret⟩)

def slices_Contains_int_int_R (u : World) (m0 : Mem) (S : Segs) (r : Bool) (a : Act) (w : World) : Prop :=
  Ok u m0 S w ∧ a.defers = [] ∧ RVs Tryz.prog a w [.t 4 (.bool r)]
set_option maxHeartbeats 4000000 in
set_option maxRecDepth 100000 in
theorem slices_Contains_int_int_w {u : World} {m0 : Mem} {S : Segs} {w : World} (N : Nat) (vs_0 : Value) (s_0 : List (Int)) (hs_0 : (pL 1 (pI .i64)) m0 [vs_0] s_0) (v_1 : Int) (rv_1 : InR .i64 v_1) {r : Bool} (hF : slices_Contains_int_int N s_0 v_1 = some r) (hG : Glob u) (ok : Ok u m0 S w) :
    Calls Tryz.prog 94 [vs_0, Value.int .i64 v_1].toArray w fun e w' => (e = .returned (.bool r) ∧ Ok u m0 S w') := by
  have hb0 := ok.base
  have le_m0 := Mem.le.refl m0
  unfold slices_Contains_int_int at hF
  have fin : ∀ a w, slices_Contains_int_int_R u m0 S r a w → bodyPost Tryz.prog Tryz.f94 (fun e w' => (e = .returned (.bool r) ∧ Ok u m0 S w')) .ret a w := by
    intro a w h
    obtain ⟨ok, hd, hrv⟩ := h
    exact c_ret2 [.t 4 (.bool r)] hd rfl hrv ⟨rfl, ok⟩
  refine enter Tryz.func94 rfl rfl rfl fun a E => ?_
  refine wp_seq ?_
  refine c_region ?_
  refine l_val E ok (y_assign rfl) rfl rfl fun a E => ?_
  refine wpList_nil ?_
  refine t_norm ?_
  refine wp_seq ?_
  refine c_region ?_
  refine l_val E ok (y_move rfl) rfl rfl fun a E => ?_
  refine l_val E ok (y_move rfl) rfl rfl fun a E => ?_
  obtain ⟨r1, e2, hF⟩ := bnd hF
  refine l_call E go_117 rfl (slices_Index_int_int_w N _ s_0 hs_0 v_1 rv_1 e2 hG ok) rfl rfl ?_
  rintro _ w ⟨⟨rfl, ok⟩, r3⟩
  refine ⟨_, rfl, fun a E => ?_⟩
  refine l_val E ok (y_geq rfl rfl) rfl rfl fun a E => ?_
  refine l_val E ok (y_assign rfl) rfl rfl fun a E => ?_
  refine wpList_nil ?_
  refine t_norm ?_
  refine wp_ret ?_
  have hret : slices_Contains_int_int_R u m0 S (decide (r1 ≥ 0)) a w := ⟨ok, E.d, ⟨rv_t E rfl, trivial⟩⟩
  obtain rfl := Option.some.inj hF
  exact fin _ _ hret

def condition_permitted_R (u : World) (m0 : Mem) (S : Segs) (r : Bool) (a : Act) (w : World) : Prop :=
  Ok u m0 S w ∧ a.defers = [] ∧ RVs Tryz.prog a w [.t 4 (.bool r)]
set_option maxHeartbeats 4000000 in
set_option maxRecDepth 100000 in
theorem condition_permitted_w {u : World} {m0 : Mem} {S : Segs} {w : World} (N : Nat) (operand_0 : Int) (roperand_0 : InR .i64 operand_0) (mod_1 : Int) (rmod_1 : InR .i64 mod_1) {r : Bool} (hF : condition_permitted N operand_0 mod_1 = some r) (hG : Glob u) (ok : Ok u m0 S w) :
    Calls Tryz.prog 70 [Value.int .i64 operand_0, Value.int .i64 mod_1].toArray w fun e w' => (e = .returned (.bool r) ∧ Ok u m0 S w') := by
  have hb0 := ok.base
  have le_m0 := Mem.le.refl m0
  unfold condition_permitted at hF
  have fin : ∀ a w, condition_permitted_R u m0 S r a w → bodyPost Tryz.prog Tryz.f70 (fun e w' => (e = .returned (.bool r) ∧ Ok u m0 S w')) .ret a w := by
    intro a w h
    obtain ⟨ok, hd, hrv⟩ := h
    exact c_ret2 [.t 4 (.bool r)] hd rfl hrv ⟨rfl, ok⟩
  refine enter Tryz.func70 rfl rfl rfl fun a E => ?_
  refine wp_seq ?_
  refine c_region ?_
  refine l_val E ok (y_assign rfl) rfl rfl fun a E => ?_
  refine wpList_nil ?_
  refine t_norm ?_
  refine wp_seq ?_
  refine wp_seq ?_
  refine c_region ?_
  refine l_val E ok (y_move rfl) rfl rfl fun a E => ?_
  refine wpList_nil ?_
  refine t_norm ?_
  refine wp_block ?_
  refine wp_seq ?_
  refine wp_seq ?_
  refine c_region ?_
  refine l_val E ok (y_eql rfl rfl) rfl rfl fun a E => ?_
  refine l_val E ok (y_assign rfl) rfl rfl fun a E => ?_
  refine wpList_nil ?_
  refine t_norm ?_
  obtain ⟨o1, hJ, hF⟩ := bnd hF
  refine c_mono (Q' := fun e a w => e = .normal ∧ Ok u m0 (S) w ∧ Env 21 a [(1, (Value.int .i64 mod_1)), (5, (Value.int .i64 operand_0)), (6, (Value.bool o1))]) ?_ ?_
  · replace hF := hJ
    clear hJ
    refine c_if E rfl (fun hc2 => ?_) (fun hc2 => ?_)
    · replace hF := cond_t hc2 hF
      refine wp_skip ?_
      obtain rfl := Option.some.inj hF
      exact ⟨rfl, ⟨ok, E.keep [1, 5, 6]⟩⟩
    replace hF := cond_f hc2 hF
    refine c_region ?_
    refine l_val E ok (y_eql rfl rfl) rfl rfl fun a E => ?_
    refine l_val E ok (y_assign rfl) rfl rfl fun a E => ?_
    refine wpList_nil ?_
    obtain rfl := Option.some.inj hF
    exact ⟨rfl, ⟨ok, E.keep [1, 5, 6]⟩⟩
  clear hJ
  intro e a w hO
  obtain ⟨rfl, ok, E⟩ := hO
  refine t_norm ?_
  refine c_if E rfl (fun hc3 => ?_) (fun hc3 => ?_)
  · replace hF := cond_t hc3 hF
    refine wp_seq ?_
    refine c_region ?_
    refine l_slit (R := (pI .i64)) (xo := [.const (Value.int .i64 2), .const (Value.int .i64 3), .const (Value.int .i64 4), .const (Value.int .i64 5), .const (Value.int .i64 6), .const (Value.int .i64 10), .const (Value.int .i64 20), .const (Value.int .i64 25), .const (Value.int .i64 50), .const (Value.int .i64 100)]) (xs := ([2, 3, 4, 5, 6, 10, 20, 25, 50, 100] : List (Int))) E ok sl_79 zero_3 rfl ⟨⟨_, rfl, rfl, (pI_mk (show InR .i64 (2) by decide))⟩, ⟨_, rfl, rfl, (pI_mk (show InR .i64 (3) by decide))⟩, ⟨_, rfl, rfl, (pI_mk (show InR .i64 (4) by decide))⟩, ⟨_, rfl, rfl, (pI_mk (show InR .i64 (5) by decide))⟩, ⟨_, rfl, rfl, (pI_mk (show InR .i64 (6) by decide))⟩, ⟨_, rfl, rfl, (pI_mk (show InR .i64 (10) by decide))⟩, ⟨_, rfl, rfl, (pI_mk (show InR .i64 (20) by decide))⟩, ⟨_, rfl, rfl, (pI_mk (show InR .i64 (25) by decide))⟩, ⟨_, rfl, rfl, (pI_mk (show InR .i64 (50) by decide))⟩, ⟨_, rfl, rfl, (pI_mk (show InR .i64 (100) by decide))⟩, trivial⟩ rfl rfl rfl rfl fun c4 M5 a w E ok h6 => ?_
    refine l_val E ok (y_move rfl) rfl rfl fun a E => ?_
    obtain ⟨r12, e13, hF⟩ := bnd hF
    obtain ⟨m7, hle9, ok8, hfz10⟩ := (ok.frs 0 rfl).freeze
    have h11 := ORow.froz (mI .i64) h6 hle9 hfz10 (by decide)
    refine l_call E go_94 rfl (slices_Contains_int_int_w N _ ([2, 3, 4, 5, 6, 10, 20, 25, 50, 100] : List (Int)) h11 mod_1 rmod_1 e13 hG ok8) rfl rfl ?_
    rintro _ w ⟨rfl, okz⟩
    replace ok := (Ok.thawAt 0 rfl ok hle9 hfz10 okz)
    refine ⟨_, rfl, fun a E => ?_⟩
    refine l_val E ok (y_assign rfl) rfl rfl fun a E => ?_
    refine wpList_nil ?_
    refine t_norm ?_
    refine wp_ret ?_
    refine b_ret ?_
    refine t_ret ?_
    have hret : condition_permitted_R u m0 S r12 a w := ⟨ok.drop, E.d, ⟨rv_t E rfl, trivial⟩⟩
    obtain rfl := Option.some.inj hF
    exact fin _ _ hret
  replace hF := cond_f hc3 hF
  refine wp_seq ?_
  refine wp_seq ?_
  refine c_region ?_
  refine l_val E ok (y_eql rfl rfl) rfl rfl fun a E => ?_
  refine l_val E ok (y_assign rfl) rfl rfl fun a E => ?_
  refine wpList_nil ?_
  refine t_norm ?_
  obtain ⟨o14, hJ, hF⟩ := bnd hF
  refine c_mono (Q' := fun e a w => e = .normal ∧ Ok u m0 (S) w ∧ Env 21 a [(1, (Value.int .i64 mod_1)), (12, (Value.bool o14))]) ?_ ?_
  · replace hF := hJ
    clear hJ
    refine c_if E rfl (fun hc15 => ?_) (fun hc15 => ?_)
    · replace hF := cond_t hc15 hF
      refine wp_skip ?_
      obtain rfl := Option.some.inj hF
      exact ⟨rfl, ⟨ok, E.keep [1, 12]⟩⟩
    replace hF := cond_f hc15 hF
    refine c_region ?_
    refine l_val E ok (y_eql rfl rfl) rfl rfl fun a E => ?_
    refine l_val E ok (y_assign rfl) rfl rfl fun a E => ?_
    refine wpList_nil ?_
    obtain rfl := Option.some.inj hF
    exact ⟨rfl, ⟨ok, E.keep [1, 12]⟩⟩
  clear hJ
  intro e a w hO
  obtain ⟨rfl, ok, E⟩ := hO
  refine t_norm ?_
  refine c_if E rfl (fun hc16 => ?_) (fun hc16 => ?_)
  rotate_left
  · replace hF := cond_f hc16 hF
    refine wp_skip ?_
    refine b_norm ?_
    refine t_norm ?_
    refine wp_seq ?_
    refine c_region ?_
    refine l_val E ok (y_assign rfl) rfl rfl fun a E => ?_
    refine wpList_nil ?_
    refine t_norm ?_
    refine wp_ret ?_
    have hret : condition_permitted_R u m0 S false a w := ⟨ok, E.d, ⟨rv_t E rfl, trivial⟩⟩
    obtain rfl := Option.some.inj hF
    exact fin _ _ hret
  replace hF := cond_t hc16 hF
  refine wp_seq ?_
  refine c_region ?_
  refine l_val E ok (y_move rfl) rfl rfl fun a E => ?_
  refine l_val E ok (y_eql rfl rfl) rfl rfl fun a E => ?_
  refine l_val E ok (y_move rfl) rfl rfl fun a E => ?_
  refine bsplit (mod_1 == 10) (fun hc17 => ?_) (fun hc17 => ?_)
  · replace hF := cond_t hc17 hF
    replace E := E.upd 17 hc17 rfl
    refine l_skip E rfl rfl fun a E => ?_
    refine l_skip E rfl rfl fun a E => ?_
    refine l_val E ok (y_pickT rfl rfl) rfl rfl fun a E => ?_
    refine l_val E ok (y_assign rfl) rfl rfl fun a E => ?_
    refine wpList_nil ?_
    refine t_norm ?_
    refine wp_ret ?_
    refine b_ret ?_
    refine t_ret ?_
    have hret : condition_permitted_R u m0 S true a w := ⟨ok, E.d, ⟨rv_t E rfl, trivial⟩⟩
    obtain rfl := Option.some.inj hF
    exact fin _ _ hret
  replace hF := cond_f hc17 hF
  replace E := E.upd 17 hc17 rfl
  refine l_val E ok (y_move rfl) rfl rfl fun a E => ?_
  refine l_val E ok (y_eql rfl rfl) rfl rfl fun a E => ?_
  refine l_val E ok (y_pickF rfl rfl) rfl rfl fun a E => ?_
  refine l_val E ok (y_assign rfl) rfl rfl fun a E => ?_
  refine wpList_nil ?_
  refine t_norm ?_
  refine wp_ret ?_
  refine b_ret ?_
  refine t_ret ?_
  have hret : condition_permitted_R u m0 S (mod_1 == 100) a w := ⟨ok, E.d, ⟨rv_t E rfl, trivial⟩⟩
  obtain rfl := Option.some.inj hF
  exact fin _ _ hret

def condition_parser_relation_1_R (u : World) (m0 : Mem) (S : Segs) (pb0 : Nat) (x0 : Int) (r : Int) (a : Act) (w : World) : Prop :=
  Ok u m0 ([(pb0, Obj.cells [(Value.int .i64 x0)].toArray 3 (0, 0))] :: S) w ∧ a.defers = [] ∧ RVs Tryz.prog a w [.t 3 (.int .i64 r)] ∧ InR .i64 r
set_option maxHeartbeats 4000000 in
set_option maxRecDepth 100000 in
theorem condition_parser_relation_1_w {u : World} {m0 : Mem} {S : Segs} {w : World} (N : Nat) (n_0 : Int) (rn_0 : InR .i64 n_0) {pb0 : Nat} (x0 : Int) (r1 : InR .i64 x0) {r : Int} (hF : condition_parser_relation_1 N n_0 x0 = some r) (hG : Glob u) (ok : Ok u m0 ([(pb0, Obj.cells [(Value.int .i64 x0)].toArray 3 (0, 0))] :: S) w) :
    Calls Tryz.prog 69 [Value.int .i64 n_0, Value.pointer (some ⟨pb0, 0, none⟩)].toArray w fun e w' => (e = .returned (.int .i64 r) ∧ Ok u m0 ([(pb0, Obj.cells [(Value.int .i64 x0)].toArray 3 (0, 0))] :: S) w') ∧ InR .i64 r := by
  have hb0 := ok.base
  have le_m0 := Mem.le.refl m0
  unfold condition_parser_relation_1 at hF
  have fin : ∀ a w, condition_parser_relation_1_R u m0 S pb0 x0 r a w → bodyPost Tryz.prog Tryz.f69 (fun e w' => (e = .returned (.int .i64 r) ∧ Ok u m0 ([(pb0, Obj.cells [(Value.int .i64 x0)].toArray 3 (0, 0))] :: S) w') ∧ InR .i64 r) .ret a w := by
    intro a w h
    obtain ⟨ok, hd, hrv, h0⟩ := h
    exact c_ret2 [.t 3 (.int .i64 r)] hd rfl hrv ⟨⟨rfl, ok⟩, h0⟩
  refine enter Tryz.func69 rfl rfl rfl fun a E => ?_
  refine wp_seq ?_
  refine c_region ?_
  refine l_val E ok (y_assign rfl) rfl rfl fun a E => ?_
  refine wpList_nil ?_
  refine t_norm ?_
  refine wp_seq ?_
  refine wp_seq ?_
  refine c_region ?_
  refine l_val E ok (y_load one_3 rfl (Holds.own 0 rfl rfl)) rfl rfl fun a E => ?_
  refine l_val E ok (y_move rfl) rfl rfl fun a E => ?_
  obtain ⟨r2, e3, hF⟩ := bnd hF
  refine l_call E go_70 rfl (condition_permitted_w N x0 r1 n_0 rn_0 e3 hG ok) rfl rfl ?_
  rintro _ w ⟨rfl, ok⟩
  refine ⟨_, rfl, fun a E => ?_⟩
  refine l_val E ok (y_not rfl) rfl rfl fun a E => ?_
  refine wpList_nil ?_
  refine t_norm ?_
  refine c_if E rfl (fun hc4 => ?_) (fun hc4 => ?_)
  · replace hF := cond_t hc4 hF
    refine wp_seq ?_
    refine c_region ?_
    refine l_val E ok (y_assign rfl) rfl rfl fun a E => ?_
    refine wpList_nil ?_
    refine t_norm ?_
    refine wp_ret ?_
    refine t_ret ?_
    have hret : condition_parser_relation_1_R u m0 S pb0 x0 2 a w := ⟨ok, E.d, ⟨rv_t E rfl, trivial⟩, (show InR .i64 (2) by decide)⟩
    obtain rfl := Option.some.inj hF
    exact fin _ _ hret
  replace hF := cond_f hc4 hF
  refine wp_skip ?_
  refine t_norm ?_
  refine wp_seq ?_
  refine c_region ?_
  refine l_val E ok (y_assign rfl) rfl rfl fun a E => ?_
  refine wpList_nil ?_
  refine t_norm ?_
  refine wp_ret ?_
  have hret : condition_parser_relation_1_R u m0 S pb0 x0 0 a w := ⟨ok, E.d, ⟨rv_t E rfl, trivial⟩, (show InR .i64 (0) by decide)⟩
  obtain rfl := Option.some.inj hF
  exact fin _ _ hret

theorem strconv_Atoi_w {u : World} {m0 : Mem} {S : Segs} {w : World} (N : Nat) (p0_0 : List UInt8) (lp0_0 : p0_0.length ≤ LIMS) {r : Int × Unit} (hF : strconv_Atoi N p0_0 = some r) (hG : Glob u) (ok : Ok u m0 S w) :
    Calls Tryz.prog 93 [Value.string (bs p0_0)].toArray w fun e w' => (e = .returned (.tuple [(.int .i64 r.1), .nilIface].toArray) ∧ Ok u m0 (S) w') ∧ InR .i64 r.1 := lib_Atoi Tryz.lays172 p0_0 hF ok

def condition_parser_number__69_R (u : World) (m0 : Mem) (S : Segs) (pb0 : Nat) (pb1 : Nat) (x0 : Parser) (x1 : Int) (r : Int × Parser) (a : Act) (w : World) : Prop :=
  Ok u m0 ([(pb0, Obj.cells [(Value.string (bs r.2.s)), (Value.int .i64 r.2.at_), (Value.int .i64 r.2.relations), (Value.int .i64 r.2.e)].toArray 61 (0, 0))] :: [(pb1, Obj.cells [(Value.int .i64 x1)].toArray 3 (0, 0))] :: S) w ∧ a.defers = [] ∧ RVs Tryz.prog a w [.t 4 (.int .i64 r.1)] ∧ InR .i64 r.1 ∧ r.2.s.length ≤ LIMS ∧ InR .i64 r.2.at_ ∧ InR .i64 r.2.relations ∧ InR .i64 r.2.e
set_option maxHeartbeats 4000000 in
set_option maxRecDepth 100000 in
theorem condition_parser_number__69_w {u : World} {m0 : Mem} {S : Segs} {w : World} (N : Nat) {pb0 : Nat} (x0 : Parser) (l1 : x0.s.length ≤ LIMS) (r2 : InR .i64 x0.at_) (r3 : InR .i64 x0.relations) (r4 : InR .i64 x0.e) {pb1 : Nat} (x1 : Int) (r5 : InR .i64 x1) {r : Int × Parser} (hF : condition_parser_number__69 N x0 x1 = some r) (hG : Glob u) (ok : Ok u m0 ([(pb0, Obj.cells [(Value.string (bs x0.s)), (Value.int .i64 x0.at_), (Value.int .i64 x0.relations), (Value.int .i64 x0.e)].toArray 61 (0, 0))] :: [(pb1, Obj.cells [(Value.int .i64 x1)].toArray 3 (0, 0))] :: S) w) :
    Calls Tryz.prog 68 [Value.pointer (some ⟨pb0, 0, none⟩), Value.func (.func 69) #[] #[.pointer (some ⟨pb1, 0, none⟩)]].toArray w fun e w' => (e = .returned (.int .i64 r.1) ∧ Ok u m0 ([(pb0, Obj.cells [(Value.string (bs r.2.s)), (Value.int .i64 r.2.at_), (Value.int .i64 r.2.relations), (Value.int .i64 r.2.e)].toArray 61 (0, 0))] :: [(pb1, Obj.cells [(Value.int .i64 x1)].toArray 3 (0, 0))] :: S) w') ∧ InR .i64 r.1 ∧ r.2.s.length ≤ LIMS ∧ InR .i64 r.2.at_ ∧ InR .i64 r.2.relations ∧ InR .i64 r.2.e := by
  have hb0 := ok.base
  have le_m0 := Mem.le.refl m0
  unfold condition_parser_number__69 at hF
  have fin : ∀ a w, condition_parser_number__69_R u m0 S pb0 pb1 x0 x1 r a w → bodyPost Tryz.prog Tryz.f68 (fun e w' => (e = .returned (.int .i64 r.1) ∧ Ok u m0 ([(pb0, Obj.cells [(Value.string (bs r.2.s)), (Value.int .i64 r.2.at_), (Value.int .i64 r.2.relations), (Value.int .i64 r.2.e)].toArray 61 (0, 0))] :: [(pb1, Obj.cells [(Value.int .i64 x1)].toArray 3 (0, 0))] :: S) w') ∧ InR .i64 r.1 ∧ r.2.s.length ≤ LIMS ∧ InR .i64 r.2.at_ ∧ InR .i64 r.2.relations ∧ InR .i64 r.2.e) .ret a w := by
    intro a w h
    obtain ⟨ok, hd, hrv, h0, h1, h2, h3, h4⟩ := h
    exact c_ret2 [.t 4 (.int .i64 r.1)] hd rfl hrv ⟨⟨rfl, ok⟩, h0, h1, h2, h3, h4⟩
  refine enter Tryz.func68 rfl rfl rfl fun a E => ?_
  refine wp_seq ?_
  refine c_region ?_
  refine l_val E ok (y_assign rfl) rfl rfl fun a E => ?_
  refine wpList_nil ?_
  refine t_norm ?_
  refine wp_seq ?_
  refine c_region ?_
  refine l_val E ok (y_move rfl) rfl rfl fun a E => ?_
  obtain ⟨r10, e11, hF⟩ := bnd hF
  refine l_call E go_65 rfl (condition_parser_peek_w N x0 l1 r2 r3 r4 e11 hG ok) rfl rfl ?_
  rintro _ w ⟨⟨rfl, ok⟩, l12, l13, r14, r15, r16⟩
  refine ⟨_, rfl, fun a E => ?_⟩
  refine l_val E ok (y_assign rfl) rfl rfl fun a E => ?_
  refine wpList_nil ?_
  refine t_norm ?_
  refine wp_seq ?_
  refine wp_seq ?_
  refine c_region ?_
  refine l_val E ok (y_move rfl) rfl rfl fun a E => ?_
  refine l_val E ok (y_seql rfl rfl) rfl rfl fun a E => ?_
  refine l_val E ok (y_move rfl) rfl rfl fun a E => ?_
  refine bsplit (r10.1 == ([])) (fun hc17 => ?_) (fun hc17 => ?_)
  · as_aux_lemma =>
      replace hF := cond_t hc17 hF
      replace E := E.upd 13 hc17 rfl
      refine l_skip E rfl rfl fun a E => ?_
      refine l_skip E rfl rfl fun a E => ?_
      refine l_skip E rfl rfl fun a E => ?_
      refine l_skip E rfl rfl fun a E => ?_
      refine l_val E ok (y_pickT rfl rfl) rfl rfl fun a E => ?_
      refine l_val E ok (y_move rfl) rfl rfl fun a E => ?_
      refine l_skip E rfl rfl fun a E => ?_
      refine l_skip E rfl rfl fun a E => ?_
      refine l_skip E rfl rfl fun a E => ?_
      refine l_val E ok (y_pickT rfl rfl) rfl rfl fun a E => ?_
      refine l_val E ok (y_move rfl) rfl rfl fun a E => ?_
      refine l_skip E rfl rfl fun a E => ?_
      refine l_skip E rfl rfl fun a E => ?_
      refine l_skip E rfl rfl fun a E => ?_
      refine l_skip E rfl rfl fun a E => ?_
      refine l_skip E rfl rfl fun a E => ?_
      refine l_skip E rfl rfl fun a E => ?_
      refine l_skip E rfl rfl fun a E => ?_
      refine l_skip E rfl rfl fun a E => ?_
      refine l_val E ok (y_pickT rfl rfl) rfl rfl fun a E => ?_
      refine wpList_nil ?_
      refine t_norm ?_
      refine c_if E rfl (fun _ => ?_) (fun h => by cases h)
      refine c_region ?_
      refine l_val E ok (y_move rfl) rfl rfl fun a E => ?_
      obtain ⟨r18, e19, hF⟩ := bnd hF
      refine l_call E go_40 rfl (condition_parser_fail_w N 3 (show InR .i64 (3) by decide) r10.2 l13 r14 r15 r16 e19 hG ok) rfl rfl ?_
      rintro _ w ⟨⟨rfl, ok⟩, l20, r21, r22, r23⟩
      refine ⟨_, rfl, fun a E => ?_⟩
      refine wpList_nil ?_
      refine t_norm ?_
      refine wp_seq ?_
      refine wp_seq ?_
      refine c_region ?_
      refine l_val E ok (y_move rfl) rfl rfl fun a E => ?_
      refine l_val E ok (y_nilCheck rfl) rfl rfl fun a E => ?_
      refine l_val E ok (y_fieldAddr fo_61_3 rfl) rfl rfl fun a E => ?_
      refine l_val E ok (y_load one_26 rfl (Holds.own 0 rfl rfl)) rfl rfl fun a E => ?_
      refine l_val E ok (y_neq rfl rfl) rfl rfl fun a E => ?_
      refine wpList_nil ?_
      refine t_norm ?_
      refine c_if E rfl (fun hc24 => ?_) (fun hc24 => ?_)
      · replace hF := cond_t hc24 hF
        refine wp_seq ?_
        refine c_region ?_
        refine l_val E ok (y_assign rfl) rfl rfl fun a E => ?_
        refine wpList_nil ?_
        refine t_norm ?_
        refine wp_ret ?_
        refine t_ret ?_
        have hret : condition_parser_number__69_R u m0 S pb0 pb1 x0 x1 (0, r18) a w := ⟨ok, E.d, ⟨rv_t E rfl, trivial⟩, (show InR .i64 (0) by decide), l20, r21, r22, r23⟩
        obtain rfl := Option.some.inj hF
        exact fin _ _ hret
      replace hF := cond_f hc24 hF
      refine wp_skip ?_
      refine t_norm ?_
      refine wp_seq ?_
      refine c_region ?_
      refine l_val E ok (y_move rfl) rfl rfl fun a E => ?_
      obtain ⟨r25, e26, hF⟩ := bnd hF
      refine l_call E go_93 rfl (strconv_Atoi_w N r10.1 l12 e26 hG ok) rfl rfl ?_
      rintro _ w ⟨⟨rfl, ok⟩, r27⟩
      refine ⟨_, rfl, fun a E => ?_⟩
      refine l_val E ok (y_move rfl) rfl rfl fun a E => ?_
      refine l_val E ok (y_extract rfl rfl) rfl rfl fun a E => ?_
      refine l_val E ok (y_extract rfl rfl) rfl rfl fun a E => ?_
      refine l_val E ok (y_assign rfl) rfl rfl fun a E => ?_
      refine l_val E ok (y_assign rfl) rfl rfl fun a E => ?_
      refine wpList_nil ?_
      refine t_norm ?_
      refine wp_seq ?_
      refine wp_seq ?_
      refine c_region ?_
      refine l_val E ok (y_move rfl) rfl rfl fun a E => ?_
      refine l_val E ok (y_move rfl) rfl rfl fun a E => ?_
      obtain ⟨r28, e29, hF⟩ := bnd hF
      replace ok : Ok u m0 ([(pb1, Obj.cells [(Value.int .i64 x1)].toArray 3 (0, 0))] :: [(pb0, Obj.cells [(Value.string (bs r18.s)), (Value.int .i64 r18.at_), (Value.int .i64 r18.relations), (Value.int .i64 r18.e)].toArray 61 (0, 0))] :: S) w := (ok.pk 2 [1, 0] rfl (by decide))
      refine l_callc E rfl go_69 rfl (condition_parser_relation_1_w N r25.1 r27 x1 r5 e29 hG ok) rfl rfl ?_
      rintro _ w ⟨⟨rfl, ok⟩, r30⟩
      refine ⟨_, rfl, fun a E => ?_⟩
      refine l_val E ok (y_assign rfl) rfl rfl fun a E => ?_
      refine wpList_nil ?_
      refine t_norm ?_
      refine wp_seq ?_
      refine c_region ?_
      refine l_val E ok (y_move rfl) rfl rfl fun a E => ?_
      refine l_val E ok (y_neq rfl rfl) rfl rfl fun a E => ?_
      refine wpList_nil ?_
      refine t_norm ?_
      refine c_if E rfl (fun hc31 => ?_) (fun hc31 => ?_)
      · replace hF := cond_t hc31 hF
        refine wp_seq ?_
        refine c_region ?_
        refine l_val E ok (y_move rfl) rfl rfl fun a E => ?_
        refine l_val E ok (y_move rfl) rfl rfl fun a E => ?_
        obtain ⟨r32, e33, hF⟩ := bnd hF
        replace ok : Ok u m0 ([(pb0, Obj.cells [(Value.string (bs r18.s)), (Value.int .i64 r18.at_), (Value.int .i64 r18.relations), (Value.int .i64 r18.e)].toArray 61 (0, 0))] :: [(pb1, Obj.cells [(Value.int .i64 x1)].toArray 3 (0, 0))] :: S) w := (ok.pk 2 [1, 0] rfl (by decide))
        refine l_call E go_40 rfl (condition_parser_fail_w N r28 r30 r18 l20 r21 r22 r23 e33 hG ok) rfl rfl ?_
        rintro _ w ⟨⟨rfl, ok⟩, l34, r35, r36, r37⟩
        refine ⟨_, rfl, fun a E => ?_⟩
        refine wpList_nil ?_
        refine t_norm ?_
        refine wp_seq ?_
        refine c_region ?_
        refine l_val E ok (y_assign rfl) rfl rfl fun a E => ?_
        refine wpList_nil ?_
        refine t_norm ?_
        refine wp_ret ?_
        refine t_ret ?_
        have hret : condition_parser_number__69_R u m0 S pb0 pb1 x0 x1 (0, r32) a w := ⟨ok, E.d, ⟨rv_t E rfl, trivial⟩, (show InR .i64 (0) by decide), l34, r35, r36, r37⟩
        obtain rfl := Option.some.inj hF
        exact fin _ _ hret
      replace hF := cond_f hc31 hF
      refine wp_skip ?_
      refine t_norm ?_
      refine wp_seq ?_
      refine c_region ?_
      refine l_val E ok (y_move rfl) rfl rfl fun a E => ?_
      refine l_val E ok (y_nilCheck rfl) rfl rfl fun a E => ?_
      refine l_val E ok (y_fieldAddr fo_61_1 rfl) rfl rfl fun a E => ?_
      refine l_val E ok (y_load one_3 rfl (Holds.own 1 rfl rfl)) rfl rfl fun a E => ?_
      refine l_val E ok (y_move rfl) rfl rfl fun a E => ?_
      refine l_val E ok (y_slen Tryz.underlying9 rfl) rfl rfl fun a E => ?_
      refine l_val E ok (y_addw rfl rfl) rfl rfl fun a E => ?_
      refine l_val E ok (y_nilCheck rfl) rfl rfl fun a E => ?_
      refine l_val E ok (y_fieldAddr fo_61_1 rfl) rfl rfl fun a E => ?_
      refine l_storeB E ok 1 rfl rfl rfl inf_3 rfl rfl ⟨rfl, trivial⟩ rfl rfl fun w ok => ?_
      refine wpList_nil ?_
      refine t_norm ?_
      refine wp_seq ?_
      refine c_region ?_
      refine l_val E ok (y_move rfl) rfl rfl fun a E => ?_
      refine l_val E ok (y_assign rfl) rfl rfl fun a E => ?_
      refine wpList_nil ?_
      refine t_norm ?_
      refine wp_ret ?_
      have hret : condition_parser_number__69_R u m0 S pb0 pb1 x0 x1 (r25.1, (Parser.mk r18.s (IntKind.wrap .i64 (r18.at_ + (r10.1.length : Int))) r18.relations r18.e)) a w := ⟨(ok.pk 2 [1, 0] rfl (by decide)), E.d, ⟨rv_t E rfl, trivial⟩, r27, l20, (InR.wrap _ _), r22, r23⟩
      obtain rfl := Option.some.inj hF
      exact fin _ _ hret
  replace hF := cond_f hc17 hF
  replace E := E.upd 13 hc17 rfl
  refine l_val E ok (y_move rfl) rfl rfl fun a E => ?_
  obtain ⟨c38, e39, hF⟩ := bnd hF
  refine l_val E ok (y_index Tryz.underlying9 rfl rfl e39) rfl rfl fun a E => ?_
  obtain ⟨r40, e41, hF⟩ := bnd hF
  refine l_call E go_89 rfl (condition_digit_w N (c38.toNat : Int) (InR.byte c38) e41 hG ok) rfl rfl ?_
  rintro _ w ⟨rfl, ok⟩
  refine ⟨_, rfl, fun a E => ?_⟩
  refine l_val E ok (y_not rfl) rfl rfl fun a E => ?_
  refine l_val E ok (y_pickF rfl rfl) rfl rfl fun a E => ?_
  refine l_val E ok (y_move rfl) rfl rfl fun a E => ?_
  refine bsplit (!r40) (fun hc42 => ?_) (fun hc42 => ?_)
  · as_aux_lemma =>
      replace hF := cond_t hc42 hF
      replace E := E.upd 19 hc42 rfl
      refine l_skip E rfl rfl fun a E => ?_
      refine l_skip E rfl rfl fun a E => ?_
      refine l_skip E rfl rfl fun a E => ?_
      refine l_val E ok (y_pickT rfl rfl) rfl rfl fun a E => ?_
      refine l_val E ok (y_move rfl) rfl rfl fun a E => ?_
      refine l_skip E rfl rfl fun a E => ?_
      refine l_skip E rfl rfl fun a E => ?_
      refine l_skip E rfl rfl fun a E => ?_
      refine l_skip E rfl rfl fun a E => ?_
      refine l_skip E rfl rfl fun a E => ?_
      refine l_skip E rfl rfl fun a E => ?_
      refine l_skip E rfl rfl fun a E => ?_
      refine l_skip E rfl rfl fun a E => ?_
      refine l_val E ok (y_pickT rfl rfl) rfl rfl fun a E => ?_
      refine wpList_nil ?_
      refine t_norm ?_
      refine c_if E rfl (fun _ => ?_) (fun h => by cases h)
      refine c_region ?_
      refine l_val E ok (y_move rfl) rfl rfl fun a E => ?_
      obtain ⟨r43, e44, hF⟩ := bnd hF
      refine l_call E go_40 rfl (condition_parser_fail_w N 3 (show InR .i64 (3) by decide) r10.2 l13 r14 r15 r16 e44 hG ok) rfl rfl ?_
      rintro _ w ⟨⟨rfl, ok⟩, l45, r46, r47, r48⟩
      refine ⟨_, rfl, fun a E => ?_⟩
      refine wpList_nil ?_
      refine t_norm ?_
      refine wp_seq ?_
      refine wp_seq ?_
      refine c_region ?_
      refine l_val E ok (y_move rfl) rfl rfl fun a E => ?_
      refine l_val E ok (y_nilCheck rfl) rfl rfl fun a E => ?_
      refine l_val E ok (y_fieldAddr fo_61_3 rfl) rfl rfl fun a E => ?_
      refine l_val E ok (y_load one_26 rfl (Holds.own 0 rfl rfl)) rfl rfl fun a E => ?_
      refine l_val E ok (y_neq rfl rfl) rfl rfl fun a E => ?_
      refine wpList_nil ?_
      refine t_norm ?_
      refine c_if E rfl (fun hc49 => ?_) (fun hc49 => ?_)
      · replace hF := cond_t hc49 hF
        refine wp_seq ?_
        refine c_region ?_
        refine l_val E ok (y_assign rfl) rfl rfl fun a E => ?_
        refine wpList_nil ?_
        refine t_norm ?_
        refine wp_ret ?_
        refine t_ret ?_
        have hret : condition_parser_number__69_R u m0 S pb0 pb1 x0 x1 (0, r43) a w := ⟨ok, E.d, ⟨rv_t E rfl, trivial⟩, (show InR .i64 (0) by decide), l45, r46, r47, r48⟩
        obtain rfl := Option.some.inj hF
        exact fin _ _ hret
      replace hF := cond_f hc49 hF
      refine wp_skip ?_
      refine t_norm ?_
      refine wp_seq ?_
      refine c_region ?_
      refine l_val E ok (y_move rfl) rfl rfl fun a E => ?_
      obtain ⟨r50, e51, hF⟩ := bnd hF
      refine l_call E go_93 rfl (strconv_Atoi_w N r10.1 l12 e51 hG ok) rfl rfl ?_
      rintro _ w ⟨⟨rfl, ok⟩, r52⟩
      refine ⟨_, rfl, fun a E => ?_⟩
      refine l_val E ok (y_move rfl) rfl rfl fun a E => ?_
      refine l_val E ok (y_extract rfl rfl) rfl rfl fun a E => ?_
      refine l_val E ok (y_extract rfl rfl) rfl rfl fun a E => ?_
      refine l_val E ok (y_assign rfl) rfl rfl fun a E => ?_
      refine l_val E ok (y_assign rfl) rfl rfl fun a E => ?_
      refine wpList_nil ?_
      refine t_norm ?_
      refine wp_seq ?_
      refine wp_seq ?_
      refine c_region ?_
      refine l_val E ok (y_move rfl) rfl rfl fun a E => ?_
      refine l_val E ok (y_move rfl) rfl rfl fun a E => ?_
      obtain ⟨r53, e54, hF⟩ := bnd hF
      replace ok : Ok u m0 ([(pb1, Obj.cells [(Value.int .i64 x1)].toArray 3 (0, 0))] :: [(pb0, Obj.cells [(Value.string (bs r43.s)), (Value.int .i64 r43.at_), (Value.int .i64 r43.relations), (Value.int .i64 r43.e)].toArray 61 (0, 0))] :: S) w := (ok.pk 2 [1, 0] rfl (by decide))
      refine l_callc E rfl go_69 rfl (condition_parser_relation_1_w N r50.1 r52 x1 r5 e54 hG ok) rfl rfl ?_
      rintro _ w ⟨⟨rfl, ok⟩, r55⟩
      refine ⟨_, rfl, fun a E => ?_⟩
      refine l_val E ok (y_assign rfl) rfl rfl fun a E => ?_
      refine wpList_nil ?_
      refine t_norm ?_
      refine wp_seq ?_
      refine c_region ?_
      refine l_val E ok (y_move rfl) rfl rfl fun a E => ?_
      refine l_val E ok (y_neq rfl rfl) rfl rfl fun a E => ?_
      refine wpList_nil ?_
      refine t_norm ?_
      refine c_if E rfl (fun hc56 => ?_) (fun hc56 => ?_)
      · replace hF := cond_t hc56 hF
        refine wp_seq ?_
        refine c_region ?_
        refine l_val E ok (y_move rfl) rfl rfl fun a E => ?_
        refine l_val E ok (y_move rfl) rfl rfl fun a E => ?_
        obtain ⟨r57, e58, hF⟩ := bnd hF
        replace ok : Ok u m0 ([(pb0, Obj.cells [(Value.string (bs r43.s)), (Value.int .i64 r43.at_), (Value.int .i64 r43.relations), (Value.int .i64 r43.e)].toArray 61 (0, 0))] :: [(pb1, Obj.cells [(Value.int .i64 x1)].toArray 3 (0, 0))] :: S) w := (ok.pk 2 [1, 0] rfl (by decide))
        refine l_call E go_40 rfl (condition_parser_fail_w N r53 r55 r43 l45 r46 r47 r48 e58 hG ok) rfl rfl ?_
        rintro _ w ⟨⟨rfl, ok⟩, l59, r60, r61, r62⟩
        refine ⟨_, rfl, fun a E => ?_⟩
        refine wpList_nil ?_
        refine t_norm ?_
        refine wp_seq ?_
        refine c_region ?_
        refine l_val E ok (y_assign rfl) rfl rfl fun a E => ?_
        refine wpList_nil ?_
        refine t_norm ?_
        refine wp_ret ?_
        refine t_ret ?_
        have hret : condition_parser_number__69_R u m0 S pb0 pb1 x0 x1 (0, r57) a w := ⟨ok, E.d, ⟨rv_t E rfl, trivial⟩, (show InR .i64 (0) by decide), l59, r60, r61, r62⟩
        obtain rfl := Option.some.inj hF
        exact fin _ _ hret
      replace hF := cond_f hc56 hF
      refine wp_skip ?_
      refine t_norm ?_
      refine wp_seq ?_
      refine c_region ?_
      refine l_val E ok (y_move rfl) rfl rfl fun a E => ?_
      refine l_val E ok (y_nilCheck rfl) rfl rfl fun a E => ?_
      refine l_val E ok (y_fieldAddr fo_61_1 rfl) rfl rfl fun a E => ?_
      refine l_val E ok (y_load one_3 rfl (Holds.own 1 rfl rfl)) rfl rfl fun a E => ?_
      refine l_val E ok (y_move rfl) rfl rfl fun a E => ?_
      refine l_val E ok (y_slen Tryz.underlying9 rfl) rfl rfl fun a E => ?_
      refine l_val E ok (y_addw rfl rfl) rfl rfl fun a E => ?_
      refine l_val E ok (y_nilCheck rfl) rfl rfl fun a E => ?_
      refine l_val E ok (y_fieldAddr fo_61_1 rfl) rfl rfl fun a E => ?_
      refine l_storeB E ok 1 rfl rfl rfl inf_3 rfl rfl ⟨rfl, trivial⟩ rfl rfl fun w ok => ?_
      refine wpList_nil ?_
      refine t_norm ?_
      refine wp_seq ?_
      refine c_region ?_
      refine l_val E ok (y_move rfl) rfl rfl fun a E => ?_
      refine l_val E ok (y_assign rfl) rfl rfl fun a E => ?_
      refine wpList_nil ?_
      refine t_norm ?_
      refine wp_ret ?_
      have hret : condition_parser_number__69_R u m0 S pb0 pb1 x0 x1 (r50.1, (Parser.mk r43.s (IntKind.wrap .i64 (r43.at_ + (r10.1.length : Int))) r43.relations r43.e)) a w := ⟨(ok.pk 2 [1, 0] rfl (by decide)), E.d, ⟨rv_t E rfl, trivial⟩, r52, l45, (InR.wrap _ _), r47, r48⟩
      obtain rfl := Option.some.inj hF
      exact fin _ _ hret
  replace hF := cond_f hc42 hF
  replace E := E.upd 19 hc42 rfl
  refine l_val E ok (y_move rfl) rfl rfl fun a E => ?_
  refine l_val E ok (y_slen Tryz.underlying9 rfl) rfl rfl fun a E => ?_
  refine l_val E ok (y_gtr rfl rfl) rfl rfl fun a E => ?_
  refine l_val E ok (y_pickF rfl rfl) rfl rfl fun a E => ?_
  refine l_val E ok (y_move rfl) rfl rfl fun a E => ?_
  refine bsplit (decide ((r10.1.length : Int) > 3)) (fun hc63 => ?_) (fun hc63 => ?_)
  · as_aux_lemma =>
      replace hF := cond_t hc63 hF
      replace E := E.upd 24 hc63 rfl
      refine l_skip E rfl rfl fun a E => ?_
      refine l_skip E rfl rfl fun a E => ?_
      refine l_skip E rfl rfl fun a E => ?_
      refine l_skip E rfl rfl fun a E => ?_
      refine l_skip E rfl rfl fun a E => ?_
      refine l_skip E rfl rfl fun a E => ?_
      refine l_skip E rfl rfl fun a E => ?_
      refine l_skip E rfl rfl fun a E => ?_
      refine l_val E ok (y_pickT rfl rfl) rfl rfl fun a E => ?_
      refine wpList_nil ?_
      refine t_norm ?_
      refine c_if E rfl (fun _ => ?_) (fun h => by cases h)
      refine c_region ?_
      refine l_val E ok (y_move rfl) rfl rfl fun a E => ?_
      obtain ⟨r64, e65, hF⟩ := bnd hF
      refine l_call E go_40 rfl (condition_parser_fail_w N 3 (show InR .i64 (3) by decide) r10.2 l13 r14 r15 r16 e65 hG ok) rfl rfl ?_
      rintro _ w ⟨⟨rfl, ok⟩, l66, r67, r68, r69⟩
      refine ⟨_, rfl, fun a E => ?_⟩
      refine wpList_nil ?_
      refine t_norm ?_
      refine wp_seq ?_
      refine wp_seq ?_
      refine c_region ?_
      refine l_val E ok (y_move rfl) rfl rfl fun a E => ?_
      refine l_val E ok (y_nilCheck rfl) rfl rfl fun a E => ?_
      refine l_val E ok (y_fieldAddr fo_61_3 rfl) rfl rfl fun a E => ?_
      refine l_val E ok (y_load one_26 rfl (Holds.own 0 rfl rfl)) rfl rfl fun a E => ?_
      refine l_val E ok (y_neq rfl rfl) rfl rfl fun a E => ?_
      refine wpList_nil ?_
      refine t_norm ?_
      refine c_if E rfl (fun hc70 => ?_) (fun hc70 => ?_)
      · replace hF := cond_t hc70 hF
        refine wp_seq ?_
        refine c_region ?_
        refine l_val E ok (y_assign rfl) rfl rfl fun a E => ?_
        refine wpList_nil ?_
        refine t_norm ?_
        refine wp_ret ?_
        refine t_ret ?_
        have hret : condition_parser_number__69_R u m0 S pb0 pb1 x0 x1 (0, r64) a w := ⟨ok, E.d, ⟨rv_t E rfl, trivial⟩, (show InR .i64 (0) by decide), l66, r67, r68, r69⟩
        obtain rfl := Option.some.inj hF
        exact fin _ _ hret
      replace hF := cond_f hc70 hF
      refine wp_skip ?_
      refine t_norm ?_
      refine wp_seq ?_
      refine c_region ?_
      refine l_val E ok (y_move rfl) rfl rfl fun a E => ?_
      obtain ⟨r71, e72, hF⟩ := bnd hF
      refine l_call E go_93 rfl (strconv_Atoi_w N r10.1 l12 e72 hG ok) rfl rfl ?_
      rintro _ w ⟨⟨rfl, ok⟩, r73⟩
      refine ⟨_, rfl, fun a E => ?_⟩
      refine l_val E ok (y_move rfl) rfl rfl fun a E => ?_
      refine l_val E ok (y_extract rfl rfl) rfl rfl fun a E => ?_
      refine l_val E ok (y_extract rfl rfl) rfl rfl fun a E => ?_
      refine l_val E ok (y_assign rfl) rfl rfl fun a E => ?_
      refine l_val E ok (y_assign rfl) rfl rfl fun a E => ?_
      refine wpList_nil ?_
      refine t_norm ?_
      refine wp_seq ?_
      refine wp_seq ?_
      refine c_region ?_
      refine l_val E ok (y_move rfl) rfl rfl fun a E => ?_
      refine l_val E ok (y_move rfl) rfl rfl fun a E => ?_
      obtain ⟨r74, e75, hF⟩ := bnd hF
      replace ok : Ok u m0 ([(pb1, Obj.cells [(Value.int .i64 x1)].toArray 3 (0, 0))] :: [(pb0, Obj.cells [(Value.string (bs r64.s)), (Value.int .i64 r64.at_), (Value.int .i64 r64.relations), (Value.int .i64 r64.e)].toArray 61 (0, 0))] :: S) w := (ok.pk 2 [1, 0] rfl (by decide))
      refine l_callc E rfl go_69 rfl (condition_parser_relation_1_w N r71.1 r73 x1 r5 e75 hG ok) rfl rfl ?_
      rintro _ w ⟨⟨rfl, ok⟩, r76⟩
      refine ⟨_, rfl, fun a E => ?_⟩
      refine l_val E ok (y_assign rfl) rfl rfl fun a E => ?_
      refine wpList_nil ?_
      refine t_norm ?_
      refine wp_seq ?_
      refine c_region ?_
      refine l_val E ok (y_move rfl) rfl rfl fun a E => ?_
      refine l_val E ok (y_neq rfl rfl) rfl rfl fun a E => ?_
      refine wpList_nil ?_
      refine t_norm ?_
      refine c_if E rfl (fun hc77 => ?_) (fun hc77 => ?_)
      · replace hF := cond_t hc77 hF
        refine wp_seq ?_
        refine c_region ?_
        refine l_val E ok (y_move rfl) rfl rfl fun a E => ?_
        refine l_val E ok (y_move rfl) rfl rfl fun a E => ?_
        obtain ⟨r78, e79, hF⟩ := bnd hF
        replace ok : Ok u m0 ([(pb0, Obj.cells [(Value.string (bs r64.s)), (Value.int .i64 r64.at_), (Value.int .i64 r64.relations), (Value.int .i64 r64.e)].toArray 61 (0, 0))] :: [(pb1, Obj.cells [(Value.int .i64 x1)].toArray 3 (0, 0))] :: S) w := (ok.pk 2 [1, 0] rfl (by decide))
        refine l_call E go_40 rfl (condition_parser_fail_w N r74 r76 r64 l66 r67 r68 r69 e79 hG ok) rfl rfl ?_
        rintro _ w ⟨⟨rfl, ok⟩, l80, r81, r82, r83⟩
        refine ⟨_, rfl, fun a E => ?_⟩
        refine wpList_nil ?_
        refine t_norm ?_
        refine wp_seq ?_
        refine c_region ?_
        refine l_val E ok (y_assign rfl) rfl rfl fun a E => ?_
        refine wpList_nil ?_
        refine t_norm ?_
        refine wp_ret ?_
        refine t_ret ?_
        have hret : condition_parser_number__69_R u m0 S pb0 pb1 x0 x1 (0, r78) a w := ⟨ok, E.d, ⟨rv_t E rfl, trivial⟩, (show InR .i64 (0) by decide), l80, r81, r82, r83⟩
        obtain rfl := Option.some.inj hF
        exact fin _ _ hret
      replace hF := cond_f hc77 hF
      refine wp_skip ?_
      refine t_norm ?_
      refine wp_seq ?_
      refine c_region ?_
      refine l_val E ok (y_move rfl) rfl rfl fun a E => ?_
      refine l_val E ok (y_nilCheck rfl) rfl rfl fun a E => ?_
      refine l_val E ok (y_fieldAddr fo_61_1 rfl) rfl rfl fun a E => ?_
      refine l_val E ok (y_load one_3 rfl (Holds.own 1 rfl rfl)) rfl rfl fun a E => ?_
      refine l_val E ok (y_move rfl) rfl rfl fun a E => ?_
      refine l_val E ok (y_slen Tryz.underlying9 rfl) rfl rfl fun a E => ?_
      refine l_val E ok (y_addw rfl rfl) rfl rfl fun a E => ?_
      refine l_val E ok (y_nilCheck rfl) rfl rfl fun a E => ?_
      refine l_val E ok (y_fieldAddr fo_61_1 rfl) rfl rfl fun a E => ?_
      refine l_storeB E ok 1 rfl rfl rfl inf_3 rfl rfl ⟨rfl, trivial⟩ rfl rfl fun w ok => ?_
      refine wpList_nil ?_
      refine t_norm ?_
      refine wp_seq ?_
      refine c_region ?_
      refine l_val E ok (y_move rfl) rfl rfl fun a E => ?_
      refine l_val E ok (y_assign rfl) rfl rfl fun a E => ?_
      refine wpList_nil ?_
      refine t_norm ?_
      refine wp_ret ?_
      have hret : condition_parser_number__69_R u m0 S pb0 pb1 x0 x1 (r71.1, (Parser.mk r64.s (IntKind.wrap .i64 (r64.at_ + (r10.1.length : Int))) r64.relations r64.e)) a w := ⟨(ok.pk 2 [1, 0] rfl (by decide)), E.d, ⟨rv_t E rfl, trivial⟩, r73, l66, (InR.wrap _ _), r68, r69⟩
      obtain rfl := Option.some.inj hF
      exact fin _ _ hret
  replace hF := cond_f hc63 hF
  replace E := E.upd 24 hc63 rfl
  refine l_val E ok (y_move rfl) rfl rfl fun a E => ?_
  refine l_val E ok (y_slen Tryz.underlying9 rfl) rfl rfl fun a E => ?_
  refine l_val E ok (y_gtr rfl rfl) rfl rfl fun a E => ?_
  refine l_val E ok (y_move rfl) rfl rfl fun a E => ?_
  refine bsplit (decide ((r10.1.length : Int) > 1)) (fun hc84 => ?_) (fun hc84 => ?_)
  rotate_left
  · as_aux_lemma =>
      replace hF := cond_f hc84 hF
      replace E := E.upd 28 hc84 rfl
      refine l_skip E rfl rfl fun a E => ?_
      refine l_skip E rfl rfl fun a E => ?_
      refine l_skip E rfl rfl fun a E => ?_
      refine l_val E ok (y_pickF rfl rfl) rfl rfl fun a E => ?_
      refine l_val E ok (y_pickF rfl rfl) rfl rfl fun a E => ?_
      refine wpList_nil ?_
      refine t_norm ?_
      refine c_if E rfl (fun h => by cases h) (fun _ => ?_)
      refine wp_skip ?_
      refine t_norm ?_
      refine wp_seq ?_
      refine wp_seq ?_
      refine c_region ?_
      refine l_val E ok (y_move rfl) rfl rfl fun a E => ?_
      refine l_val E ok (y_nilCheck rfl) rfl rfl fun a E => ?_
      refine l_val E ok (y_fieldAddr fo_61_3 rfl) rfl rfl fun a E => ?_
      refine l_val E ok (y_load one_26 rfl (Holds.own 0 rfl rfl)) rfl rfl fun a E => ?_
      refine l_val E ok (y_neq rfl rfl) rfl rfl fun a E => ?_
      refine wpList_nil ?_
      refine t_norm ?_
      refine c_if E rfl (fun hc117 => ?_) (fun hc117 => ?_)
      · replace hF := cond_t hc117 hF
        refine wp_seq ?_
        refine c_region ?_
        refine l_val E ok (y_assign rfl) rfl rfl fun a E => ?_
        refine wpList_nil ?_
        refine t_norm ?_
        refine wp_ret ?_
        refine t_ret ?_
        have hret : condition_parser_number__69_R u m0 S pb0 pb1 x0 x1 (0, r10.2) a w := ⟨ok, E.d, ⟨rv_t E rfl, trivial⟩, (show InR .i64 (0) by decide), l13, r14, r15, r16⟩
        obtain rfl := Option.some.inj hF
        exact fin _ _ hret
      replace hF := cond_f hc117 hF
      refine wp_skip ?_
      refine t_norm ?_
      refine wp_seq ?_
      refine c_region ?_
      refine l_val E ok (y_move rfl) rfl rfl fun a E => ?_
      obtain ⟨r118, e119, hF⟩ := bnd hF
      refine l_call E go_93 rfl (strconv_Atoi_w N r10.1 l12 e119 hG ok) rfl rfl ?_
      rintro _ w ⟨⟨rfl, ok⟩, r120⟩
      refine ⟨_, rfl, fun a E => ?_⟩
      refine l_val E ok (y_move rfl) rfl rfl fun a E => ?_
      refine l_val E ok (y_extract rfl rfl) rfl rfl fun a E => ?_
      refine l_val E ok (y_extract rfl rfl) rfl rfl fun a E => ?_
      refine l_val E ok (y_assign rfl) rfl rfl fun a E => ?_
      refine l_val E ok (y_assign rfl) rfl rfl fun a E => ?_
      refine wpList_nil ?_
      refine t_norm ?_
      refine wp_seq ?_
      refine wp_seq ?_
      refine c_region ?_
      refine l_val E ok (y_move rfl) rfl rfl fun a E => ?_
      refine l_val E ok (y_move rfl) rfl rfl fun a E => ?_
      obtain ⟨r121, e122, hF⟩ := bnd hF
      replace ok : Ok u m0 ([(pb1, Obj.cells [(Value.int .i64 x1)].toArray 3 (0, 0))] :: [(pb0, Obj.cells [(Value.string (bs r10.2.s)), (Value.int .i64 r10.2.at_), (Value.int .i64 r10.2.relations), (Value.int .i64 r10.2.e)].toArray 61 (0, 0))] :: S) w := (ok.pk 2 [1, 0] rfl (by decide))
      refine l_callc E rfl go_69 rfl (condition_parser_relation_1_w N r118.1 r120 x1 r5 e122 hG ok) rfl rfl ?_
      rintro _ w ⟨⟨rfl, ok⟩, r123⟩
      refine ⟨_, rfl, fun a E => ?_⟩
      refine l_val E ok (y_assign rfl) rfl rfl fun a E => ?_
      refine wpList_nil ?_
      refine t_norm ?_
      refine wp_seq ?_
      refine c_region ?_
      refine l_val E ok (y_move rfl) rfl rfl fun a E => ?_
      refine l_val E ok (y_neq rfl rfl) rfl rfl fun a E => ?_
      refine wpList_nil ?_
      refine t_norm ?_
      refine c_if E rfl (fun hc124 => ?_) (fun hc124 => ?_)
      · replace hF := cond_t hc124 hF
        refine wp_seq ?_
        refine c_region ?_
        refine l_val E ok (y_move rfl) rfl rfl fun a E => ?_
        refine l_val E ok (y_move rfl) rfl rfl fun a E => ?_
        obtain ⟨r125, e126, hF⟩ := bnd hF
        replace ok : Ok u m0 ([(pb0, Obj.cells [(Value.string (bs r10.2.s)), (Value.int .i64 r10.2.at_), (Value.int .i64 r10.2.relations), (Value.int .i64 r10.2.e)].toArray 61 (0, 0))] :: [(pb1, Obj.cells [(Value.int .i64 x1)].toArray 3 (0, 0))] :: S) w := (ok.pk 2 [1, 0] rfl (by decide))
        refine l_call E go_40 rfl (condition_parser_fail_w N r121 r123 r10.2 l13 r14 r15 r16 e126 hG ok) rfl rfl ?_
        rintro _ w ⟨⟨rfl, ok⟩, l127, r128, r129, r130⟩
        refine ⟨_, rfl, fun a E => ?_⟩
        refine wpList_nil ?_
        refine t_norm ?_
        refine wp_seq ?_
        refine c_region ?_
        refine l_val E ok (y_assign rfl) rfl rfl fun a E => ?_
        refine wpList_nil ?_
        refine t_norm ?_
        refine wp_ret ?_
        refine t_ret ?_
        have hret : condition_parser_number__69_R u m0 S pb0 pb1 x0 x1 (0, r125) a w := ⟨ok, E.d, ⟨rv_t E rfl, trivial⟩, (show InR .i64 (0) by decide), l127, r128, r129, r130⟩
        obtain rfl := Option.some.inj hF
        exact fin _ _ hret
      replace hF := cond_f hc124 hF
      refine wp_skip ?_
      refine t_norm ?_
      refine wp_seq ?_
      refine c_region ?_
      refine l_val E ok (y_move rfl) rfl rfl fun a E => ?_
      refine l_val E ok (y_nilCheck rfl) rfl rfl fun a E => ?_
      refine l_val E ok (y_fieldAddr fo_61_1 rfl) rfl rfl fun a E => ?_
      refine l_val E ok (y_load one_3 rfl (Holds.own 1 rfl rfl)) rfl rfl fun a E => ?_
      refine l_val E ok (y_move rfl) rfl rfl fun a E => ?_
      refine l_val E ok (y_slen Tryz.underlying9 rfl) rfl rfl fun a E => ?_
      refine l_val E ok (y_addw rfl rfl) rfl rfl fun a E => ?_
      refine l_val E ok (y_nilCheck rfl) rfl rfl fun a E => ?_
      refine l_val E ok (y_fieldAddr fo_61_1 rfl) rfl rfl fun a E => ?_
      refine l_storeB E ok 1 rfl rfl rfl inf_3 rfl rfl ⟨rfl, trivial⟩ rfl rfl fun w ok => ?_
      refine wpList_nil ?_
      refine t_norm ?_
      refine wp_seq ?_
      refine c_region ?_
      refine l_val E ok (y_move rfl) rfl rfl fun a E => ?_
      refine l_val E ok (y_assign rfl) rfl rfl fun a E => ?_
      refine wpList_nil ?_
      refine t_norm ?_
      refine wp_ret ?_
      have hret : condition_parser_number__69_R u m0 S pb0 pb1 x0 x1 (r118.1, (Parser.mk r10.2.s (IntKind.wrap .i64 (r10.2.at_ + (r10.1.length : Int))) r10.2.relations r10.2.e)) a w := ⟨(ok.pk 2 [1, 0] rfl (by decide)), E.d, ⟨rv_t E rfl, trivial⟩, r120, l13, (InR.wrap _ _), r15, r16⟩
      obtain rfl := Option.some.inj hF
      exact fin _ _ hret
  replace hF := cond_t hc84 hF
  replace E := E.upd 28 hc84 rfl
  refine l_val E ok (y_move rfl) rfl rfl fun a E => ?_
  obtain ⟨c85, e86, hF⟩ := bnd hF
  refine l_val E ok (y_index Tryz.underlying9 rfl rfl e86) rfl rfl fun a E => ?_
  refine l_val E ok (y_eql rfl rfl) rfl rfl fun a E => ?_
  refine l_val E ok (y_pickT rfl rfl) rfl rfl fun a E => ?_
  refine l_val E ok (y_pickF rfl rfl) rfl rfl fun a E => ?_
  refine wpList_nil ?_
  refine t_norm ?_
  obtain ⟨o87, hJ, hF⟩ := bnd hF
  refine c_mono (Q' := fun e a w => e = .normal ∧ Ok u m0 ([(pb0, Obj.cells [(Value.string (bs o87.s)), (Value.int .i64 o87.at_), (Value.int .i64 o87.relations), (Value.int .i64 o87.e)].toArray 61 (0, 0))] :: [(pb1, Obj.cells [(Value.int .i64 x1)].toArray 3 (0, 0))] :: S) w ∧ Env 64 a [(0, (Value.pointer (some ⟨pb0, 0, none⟩))), (1, (Value.func (.func 69) #[] #[.pointer (some ⟨pb1, 0, none⟩)])), (5, (Value.string (bs r10.1)))] ∧ o87.s.length ≤ LIMS ∧ InR .i64 o87.at_ ∧ InR .i64 o87.relations ∧ InR .i64 o87.e) ?_ ?_
  · replace hF := hJ
    clear hJ
    refine c_if E rfl (fun hc92 => ?_) (fun hc92 => ?_)
    rotate_left
    · replace hF := cond_f hc92 hF
      refine wp_skip ?_
      obtain rfl := Option.some.inj hF
      exact ⟨rfl, ⟨ok, E.keep [0, 1, 5], l13, r14, r15, r16⟩⟩
    replace hF := cond_t hc92 hF
    refine c_region ?_
    refine l_val E ok (y_move rfl) rfl rfl fun a E => ?_
    obtain ⟨r93, e94, hF⟩ := bnd hF
    refine l_call E go_40 rfl (condition_parser_fail_w N 3 (show InR .i64 (3) by decide) r10.2 l13 r14 r15 r16 e94 hG ok) rfl rfl ?_
    rintro _ w ⟨⟨rfl, ok⟩, l95, r96, r97, r98⟩
    refine ⟨_, rfl, fun a E => ?_⟩
    refine wpList_nil ?_
    obtain rfl := Option.some.inj hF
    exact ⟨rfl, ⟨ok, E.keep [0, 1, 5], l95, r96, r97, r98⟩⟩
  clear hJ
  intro e a w hO
  obtain ⟨rfl, ok, E, l99, r100, r101, r102⟩ := hO
  refine t_norm ?_
  refine wp_seq ?_
  refine wp_seq ?_
  refine c_region ?_
  refine l_val E ok (y_move rfl) rfl rfl fun a E => ?_
  refine l_val E ok (y_nilCheck rfl) rfl rfl fun a E => ?_
  refine l_val E ok (y_fieldAddr fo_61_3 rfl) rfl rfl fun a E => ?_
  refine l_val E ok (y_load one_26 rfl (Holds.own 0 rfl rfl)) rfl rfl fun a E => ?_
  refine l_val E ok (y_neq rfl rfl) rfl rfl fun a E => ?_
  refine wpList_nil ?_
  refine t_norm ?_
  refine c_if E rfl (fun hc103 => ?_) (fun hc103 => ?_)
  · replace hF := cond_t hc103 hF
    refine wp_seq ?_
    refine c_region ?_
    refine l_val E ok (y_assign rfl) rfl rfl fun a E => ?_
    refine wpList_nil ?_
    refine t_norm ?_
    refine wp_ret ?_
    refine t_ret ?_
    have hret : condition_parser_number__69_R u m0 S pb0 pb1 x0 x1 (0, o87) a w := ⟨ok, E.d, ⟨rv_t E rfl, trivial⟩, (show InR .i64 (0) by decide), l99, r100, r101, r102⟩
    obtain rfl := Option.some.inj hF
    exact fin _ _ hret
  replace hF := cond_f hc103 hF
  refine wp_skip ?_
  refine t_norm ?_
  refine wp_seq ?_
  refine c_region ?_
  refine l_val E ok (y_move rfl) rfl rfl fun a E => ?_
  obtain ⟨r104, e105, hF⟩ := bnd hF
  refine l_call E go_93 rfl (strconv_Atoi_w N r10.1 l12 e105 hG ok) rfl rfl ?_
  rintro _ w ⟨⟨rfl, ok⟩, r106⟩
  refine ⟨_, rfl, fun a E => ?_⟩
  refine l_val E ok (y_move rfl) rfl rfl fun a E => ?_
  refine l_val E ok (y_extract rfl rfl) rfl rfl fun a E => ?_
  refine l_val E ok (y_extract rfl rfl) rfl rfl fun a E => ?_
  refine l_val E ok (y_assign rfl) rfl rfl fun a E => ?_
  refine l_val E ok (y_assign rfl) rfl rfl fun a E => ?_
  refine wpList_nil ?_
  refine t_norm ?_
  refine wp_seq ?_
  refine wp_seq ?_
  refine c_region ?_
  refine l_val E ok (y_move rfl) rfl rfl fun a E => ?_
  refine l_val E ok (y_move rfl) rfl rfl fun a E => ?_
  obtain ⟨r107, e108, hF⟩ := bnd hF
  replace ok : Ok u m0 ([(pb1, Obj.cells [(Value.int .i64 x1)].toArray 3 (0, 0))] :: [(pb0, Obj.cells [(Value.string (bs o87.s)), (Value.int .i64 o87.at_), (Value.int .i64 o87.relations), (Value.int .i64 o87.e)].toArray 61 (0, 0))] :: S) w := (ok.pk 2 [1, 0] rfl (by decide))
  refine l_callc E rfl go_69 rfl (condition_parser_relation_1_w N r104.1 r106 x1 r5 e108 hG ok) rfl rfl ?_
  rintro _ w ⟨⟨rfl, ok⟩, r109⟩
  refine ⟨_, rfl, fun a E => ?_⟩
  refine l_val E ok (y_assign rfl) rfl rfl fun a E => ?_
  refine wpList_nil ?_
  refine t_norm ?_
  refine wp_seq ?_
  refine c_region ?_
  refine l_val E ok (y_move rfl) rfl rfl fun a E => ?_
  refine l_val E ok (y_neq rfl rfl) rfl rfl fun a E => ?_
  refine wpList_nil ?_
  refine t_norm ?_
  refine c_if E rfl (fun hc110 => ?_) (fun hc110 => ?_)
  · replace hF := cond_t hc110 hF
    refine wp_seq ?_
    refine c_region ?_
    refine l_val E ok (y_move rfl) rfl rfl fun a E => ?_
    refine l_val E ok (y_move rfl) rfl rfl fun a E => ?_
    obtain ⟨r111, e112, hF⟩ := bnd hF
    replace ok : Ok u m0 ([(pb0, Obj.cells [(Value.string (bs o87.s)), (Value.int .i64 o87.at_), (Value.int .i64 o87.relations), (Value.int .i64 o87.e)].toArray 61 (0, 0))] :: [(pb1, Obj.cells [(Value.int .i64 x1)].toArray 3 (0, 0))] :: S) w := (ok.pk 2 [1, 0] rfl (by decide))
    refine l_call E go_40 rfl (condition_parser_fail_w N r107 r109 o87 l99 r100 r101 r102 e112 hG ok) rfl rfl ?_
    rintro _ w ⟨⟨rfl, ok⟩, l113, r114, r115, r116⟩
    refine ⟨_, rfl, fun a E => ?_⟩
    refine wpList_nil ?_
    refine t_norm ?_
    refine wp_seq ?_
    refine c_region ?_
    refine l_val E ok (y_assign rfl) rfl rfl fun a E => ?_
    refine wpList_nil ?_
    refine t_norm ?_
    refine wp_ret ?_
    refine t_ret ?_
    have hret : condition_parser_number__69_R u m0 S pb0 pb1 x0 x1 (0, r111) a w := ⟨ok, E.d, ⟨rv_t E rfl, trivial⟩, (show InR .i64 (0) by decide), l113, r114, r115, r116⟩
    obtain rfl := Option.some.inj hF
    exact fin _ _ hret
  replace hF := cond_f hc110 hF
  refine wp_skip ?_
  refine t_norm ?_
  refine wp_seq ?_
  refine c_region ?_
  refine l_val E ok (y_move rfl) rfl rfl fun a E => ?_
  refine l_val E ok (y_nilCheck rfl) rfl rfl fun a E => ?_
  refine l_val E ok (y_fieldAddr fo_61_1 rfl) rfl rfl fun a E => ?_
  refine l_val E ok (y_load one_3 rfl (Holds.own 1 rfl rfl)) rfl rfl fun a E => ?_
  refine l_val E ok (y_move rfl) rfl rfl fun a E => ?_
  refine l_val E ok (y_slen Tryz.underlying9 rfl) rfl rfl fun a E => ?_
  refine l_val E ok (y_addw rfl rfl) rfl rfl fun a E => ?_
  refine l_val E ok (y_nilCheck rfl) rfl rfl fun a E => ?_
  refine l_val E ok (y_fieldAddr fo_61_1 rfl) rfl rfl fun a E => ?_
  refine l_storeB E ok 1 rfl rfl rfl inf_3 rfl rfl ⟨rfl, trivial⟩ rfl rfl fun w ok => ?_
  refine wpList_nil ?_
  refine t_norm ?_
  refine wp_seq ?_
  refine c_region ?_
  refine l_val E ok (y_move rfl) rfl rfl fun a E => ?_
  refine l_val E ok (y_assign rfl) rfl rfl fun a E => ?_
  refine wpList_nil ?_
  refine t_norm ?_
  refine wp_ret ?_
  have hret : condition_parser_number__69_R u m0 S pb0 pb1 x0 x1 (r104.1, (Parser.mk o87.s (IntKind.wrap .i64 (o87.at_ + (r10.1.length : Int))) o87.relations o87.e)) a w := ⟨(ok.pk 2 [1, 0] rfl (by decide)), E.d, ⟨rv_t E rfl, trivial⟩, r106, l99, (InR.wrap _ _), r101, r102⟩
  obtain rfl := Option.some.inj hF
  exact fin _ _ hret

def condition_greatest_R (u : World) (m0 : Mem) (S : Segs) (r : Int) (a : Act) (w : World) : Prop :=
  Ok u m0 S w ∧ a.defers = [] ∧ RVs Tryz.prog a w [.t 2 (.int .i64 r)] ∧ InR .i64 r
set_option maxHeartbeats 4000000 in
set_option maxRecDepth 100000 in
theorem condition_greatest_w {u : World} {m0 : Mem} {S : Segs} {w : World} (N : Nat) (operand_0 : Int) (roperand_0 : InR .i64 operand_0) {r : Int} (hF : condition_greatest N operand_0 = some r) (hG : Glob u) (ok : Ok u m0 S w) :
    Calls Tryz.prog 74 [Value.int .i64 operand_0].toArray w fun e w' => (e = .returned (.int .i64 r) ∧ Ok u m0 S w') ∧ InR .i64 r := by
  have hb0 := ok.base
  have le_m0 := Mem.le.refl m0
  unfold condition_greatest at hF
  have fin : ∀ a w, condition_greatest_R u m0 S r a w → bodyPost Tryz.prog Tryz.f74 (fun e w' => (e = .returned (.int .i64 r) ∧ Ok u m0 S w') ∧ InR .i64 r) .ret a w := by
    intro a w h
    obtain ⟨ok, hd, hrv, h0⟩ := h
    exact c_ret2 [.t 2 (.int .i64 r)] hd rfl hrv ⟨⟨rfl, ok⟩, h0⟩
  refine enter Tryz.func74 rfl rfl rfl fun a E => ?_
  refine wp_seq ?_
  refine c_region ?_
  refine l_val E ok (y_assign rfl) rfl rfl fun a E => ?_
  refine wpList_nil ?_
  refine t_norm ?_
  refine wp_seq ?_
  refine wp_seq ?_
  refine c_region ?_
  refine l_val E ok (y_move rfl) rfl rfl fun a E => ?_
  refine l_val E ok (y_eql rfl rfl) rfl rfl fun a E => ?_
  refine l_val E ok (y_move rfl) rfl rfl fun a E => ?_
  refine bsplit (operand_0 == 3) (fun hc1 => ?_) (fun hc1 => ?_)
  · replace hF := cond_t hc1 hF
    replace E := E.upd 5 hc1 rfl
    refine l_skip E rfl rfl fun a E => ?_
    refine l_skip E rfl rfl fun a E => ?_
    refine l_val E ok (y_pickT rfl rfl) rfl rfl fun a E => ?_
    refine wpList_nil ?_
    refine t_norm ?_
    refine c_if E rfl (fun _ => ?_) (fun h => by cases h)
    refine wp_seq ?_
    refine c_region ?_
    refine l_val E ok (y_assign rfl) rfl rfl fun a E => ?_
    refine wpList_nil ?_
    refine t_norm ?_
    refine wp_ret ?_
    refine t_ret ?_
    have hret : condition_greatest_R u m0 S 6 a w := ⟨ok, E.d, ⟨rv_t E rfl, trivial⟩, (show InR .i64 (6) by decide)⟩
    obtain rfl := Option.some.inj hF
    exact fin _ _ hret
  replace hF := cond_f hc1 hF
  replace E := E.upd 5 hc1 rfl
  refine l_val E ok (y_move rfl) rfl rfl fun a E => ?_
  refine l_val E ok (y_eql rfl rfl) rfl rfl fun a E => ?_
  refine l_val E ok (y_pickF rfl rfl) rfl rfl fun a E => ?_
  refine wpList_nil ?_
  refine t_norm ?_
  refine c_if E rfl (fun hc2 => ?_) (fun hc2 => ?_)
  · replace hF := cond_t hc2 hF
    refine wp_seq ?_
    refine c_region ?_
    refine l_val E ok (y_assign rfl) rfl rfl fun a E => ?_
    refine wpList_nil ?_
    refine t_norm ?_
    refine wp_ret ?_
    refine t_ret ?_
    have hret : condition_greatest_R u m0 S 6 a w := ⟨ok, E.d, ⟨rv_t E rfl, trivial⟩, (show InR .i64 (6) by decide)⟩
    obtain rfl := Option.some.inj hF
    exact fin _ _ hret
  replace hF := cond_f hc2 hF
  refine wp_skip ?_
  refine t_norm ?_
  refine wp_seq ?_
  refine c_region ?_
  refine l_val E ok (y_assign rfl) rfl rfl fun a E => ?_
  refine wpList_nil ?_
  refine t_norm ?_
  refine wp_ret ?_
  have hret : condition_greatest_R u m0 S 100 a w := ⟨ok, E.d, ⟨rv_t E rfl, trivial⟩, (show InR .i64 (100) by decide)⟩
  obtain rfl := Option.some.inj hF
  exact fin _ _ hret

def condition_parser_span_1_R (u : World) (m0 : Mem) (S : Segs) (pb0 : Nat) (pb1 : Nat) (x0 : Int) (x1 : Int) (r : Int) (a : Act) (w : World) : Prop :=
  Ok u m0 ([(pb0, Obj.cells [(Value.int .i64 x0)].toArray 3 (0, 0))] :: [(pb1, Obj.cells [(Value.int .i64 x1)].toArray 3 (0, 0))] :: S) w ∧ a.defers = [] ∧ RVs Tryz.prog a w [.t 4 (.int .i64 r)] ∧ InR .i64 r
set_option maxHeartbeats 4000000 in
set_option maxRecDepth 100000 in
theorem condition_parser_span_1_w {u : World} {m0 : Mem} {S : Segs} {w : World} (N : Nat) (n_0 : Int) (rn_0 : InR .i64 n_0) {pb0 : Nat} (x0 : Int) (r1 : InR .i64 x0) {pb1 : Nat} (x1 : Int) (r2 : InR .i64 x1) {r : Int} (hF : condition_parser_span_1 N n_0 x0 x1 = some r) (hG : Glob u) (ok : Ok u m0 ([(pb0, Obj.cells [(Value.int .i64 x0)].toArray 3 (0, 0))] :: [(pb1, Obj.cells [(Value.int .i64 x1)].toArray 3 (0, 0))] :: S) w) :
    Calls Tryz.prog 95 [Value.int .i64 n_0, Value.pointer (some ⟨pb0, 0, none⟩), Value.pointer (some ⟨pb1, 0, none⟩)].toArray w fun e w' => (e = .returned (.int .i64 r) ∧ Ok u m0 ([(pb0, Obj.cells [(Value.int .i64 x0)].toArray 3 (0, 0))] :: [(pb1, Obj.cells [(Value.int .i64 x1)].toArray 3 (0, 0))] :: S) w') ∧ InR .i64 r := by
  have hb0 := ok.base
  have le_m0 := Mem.le.refl m0
  unfold condition_parser_span_1 at hF
  have fin : ∀ a w, condition_parser_span_1_R u m0 S pb0 pb1 x0 x1 r a w → bodyPost Tryz.prog Tryz.f95 (fun e w' => (e = .returned (.int .i64 r) ∧ Ok u m0 ([(pb0, Obj.cells [(Value.int .i64 x0)].toArray 3 (0, 0))] :: [(pb1, Obj.cells [(Value.int .i64 x1)].toArray 3 (0, 0))] :: S) w') ∧ InR .i64 r) .ret a w := by
    intro a w h
    obtain ⟨ok, hd, hrv, h0⟩ := h
    exact c_ret2 [.t 4 (.int .i64 r)] hd rfl hrv ⟨⟨rfl, ok⟩, h0⟩
  refine enter Tryz.func95 rfl rfl rfl fun a E => ?_
  refine wp_seq ?_
  refine c_region ?_
  refine l_val E ok (y_assign rfl) rfl rfl fun a E => ?_
  refine wpList_nil ?_
  refine t_norm ?_
  refine wp_seq ?_
  refine wp_block ?_
  refine wp_seq ?_
  refine c_region ?_
  refine l_val E ok (y_move rfl) rfl rfl fun a E => ?_
  refine l_val E ok (y_load one_3 rfl (Holds.own 0 rfl rfl)) rfl rfl fun a E => ?_
  obtain ⟨r3, e4, hF⟩ := bnd hF
  refine l_call E go_74 rfl (condition_greatest_w N x0 r1 e4 hG ok) rfl rfl ?_
  rintro _ w ⟨⟨rfl, ok⟩, r5⟩
  refine ⟨_, rfl, fun a E => ?_⟩
  refine l_val E ok (y_gtr rfl rfl) rfl rfl fun a E => ?_
  refine l_val E ok (y_assign rfl) rfl rfl fun a E => ?_
  refine wpList_nil ?_
  refine t_norm ?_
  refine c_if E rfl (fun hc6 => ?_) (fun hc6 => ?_)
  · replace hF := cond_t hc6 hF
    refine wp_seq ?_
    refine c_region ?_
    refine l_val E ok (y_assign rfl) rfl rfl fun a E => ?_
    refine wpList_nil ?_
    refine t_norm ?_
    refine wp_ret ?_
    refine b_ret ?_
    refine t_ret ?_
    have hret : condition_parser_span_1_R u m0 S pb0 pb1 x0 x1 2 a w := ⟨ok, E.d, ⟨rv_t E rfl, trivial⟩, (show InR .i64 (2) by decide)⟩
    obtain rfl := Option.some.inj hF
    exact fin _ _ hret
  replace hF := cond_f hc6 hF
  refine wp_seq ?_
  refine c_region ?_
  refine l_val E ok (y_load one_3 rfl (Holds.own 1 rfl rfl)) rfl rfl fun a E => ?_
  refine l_val E ok (y_geq rfl rfl) rfl rfl fun a E => ?_
  refine l_val E ok (y_assign rfl) rfl rfl fun a E => ?_
  refine wpList_nil ?_
  refine t_norm ?_
  refine c_if E rfl (fun hc7 => ?_) (fun hc7 => ?_)
  · replace hF := cond_t hc7 hF
    refine wp_seq ?_
    refine c_region ?_
    refine l_val E ok (y_assign rfl) rfl rfl fun a E => ?_
    refine wpList_nil ?_
    refine t_norm ?_
    refine wp_ret ?_
    refine b_ret ?_
    refine t_ret ?_
    have hret : condition_parser_span_1_R u m0 S pb0 pb1 x0 x1 6 a w := ⟨ok, E.d, ⟨rv_t E rfl, trivial⟩, (show InR .i64 (6) by decide)⟩
    obtain rfl := Option.some.inj hF
    exact fin _ _ hret
  replace hF := cond_f hc7 hF
  refine wp_skip ?_
  refine b_norm ?_
  refine t_norm ?_
  refine wp_seq ?_
  refine c_region ?_
  refine l_val E ok (y_assign rfl) rfl rfl fun a E => ?_
  refine wpList_nil ?_
  refine t_norm ?_
  refine wp_ret ?_
  have hret : condition_parser_span_1_R u m0 S pb0 pb1 x0 x1 0 a w := ⟨ok, E.d, ⟨rv_t E rfl, trivial⟩, (show InR .i64 (0) by decide)⟩
  obtain rfl := Option.some.inj hF
  exact fin _ _ hret

def condition_parser_number__95_R (u : World) (m0 : Mem) (S : Segs) (pb0 : Nat) (pb1 : Nat) (pb2 : Nat) (x0 : Parser) (x1 : Int) (x2 : Int) (r : Int × Parser) (a : Act) (w : World) : Prop :=
  Ok u m0 ([(pb0, Obj.cells [(Value.string (bs r.2.s)), (Value.int .i64 r.2.at_), (Value.int .i64 r.2.relations), (Value.int .i64 r.2.e)].toArray 61 (0, 0))] :: [(pb1, Obj.cells [(Value.int .i64 x1)].toArray 3 (0, 0))] :: [(pb2, Obj.cells [(Value.int .i64 x2)].toArray 3 (0, 0))] :: S) w ∧ a.defers = [] ∧ RVs Tryz.prog a w [.t 4 (.int .i64 r.1)] ∧ InR .i64 r.1 ∧ r.2.s.length ≤ LIMS ∧ InR .i64 r.2.at_ ∧ InR .i64 r.2.relations ∧ InR .i64 r.2.e
set_option maxHeartbeats 4000000 in
set_option maxRecDepth 100000 in
theorem condition_parser_number__95_w {u : World} {m0 : Mem} {S : Segs} {w : World} (N : Nat) {pb0 : Nat} (x0 : Parser) (l1 : x0.s.length ≤ LIMS) (r2 : InR .i64 x0.at_) (r3 : InR .i64 x0.relations) (r4 : InR .i64 x0.e) {pb1 : Nat} (x1 : Int) (r5 : InR .i64 x1) {pb2 : Nat} (x2 : Int) (r6 : InR .i64 x2) {r : Int × Parser} (hF : condition_parser_number__95 N x0 x1 x2 = some r) (hG : Glob u) (ok : Ok u m0 ([(pb0, Obj.cells [(Value.string (bs x0.s)), (Value.int .i64 x0.at_), (Value.int .i64 x0.relations), (Value.int .i64 x0.e)].toArray 61 (0, 0))] :: [(pb1, Obj.cells [(Value.int .i64 x1)].toArray 3 (0, 0))] :: [(pb2, Obj.cells [(Value.int .i64 x2)].toArray 3 (0, 0))] :: S) w) :
    Calls Tryz.prog 68 [Value.pointer (some ⟨pb0, 0, none⟩), Value.func (.func 95) #[] #[.pointer (some ⟨pb1, 0, none⟩), .pointer (some ⟨pb2, 0, none⟩)]].toArray w fun e w' => (e = .returned (.int .i64 r.1) ∧ Ok u m0 ([(pb0, Obj.cells [(Value.string (bs r.2.s)), (Value.int .i64 r.2.at_), (Value.int .i64 r.2.relations), (Value.int .i64 r.2.e)].toArray 61 (0, 0))] :: [(pb1, Obj.cells [(Value.int .i64 x1)].toArray 3 (0, 0))] :: [(pb2, Obj.cells [(Value.int .i64 x2)].toArray 3 (0, 0))] :: S) w') ∧ InR .i64 r.1 ∧ r.2.s.length ≤ LIMS ∧ InR .i64 r.2.at_ ∧ InR .i64 r.2.relations ∧ InR .i64 r.2.e := by
  have hb0 := ok.base
  have le_m0 := Mem.le.refl m0
  unfold condition_parser_number__95 at hF
  have fin : ∀ a w, condition_parser_number__95_R u m0 S pb0 pb1 pb2 x0 x1 x2 r a w → bodyPost Tryz.prog Tryz.f68 (fun e w' => (e = .returned (.int .i64 r.1) ∧ Ok u m0 ([(pb0, Obj.cells [(Value.string (bs r.2.s)), (Value.int .i64 r.2.at_), (Value.int .i64 r.2.relations), (Value.int .i64 r.2.e)].toArray 61 (0, 0))] :: [(pb1, Obj.cells [(Value.int .i64 x1)].toArray 3 (0, 0))] :: [(pb2, Obj.cells [(Value.int .i64 x2)].toArray 3 (0, 0))] :: S) w') ∧ InR .i64 r.1 ∧ r.2.s.length ≤ LIMS ∧ InR .i64 r.2.at_ ∧ InR .i64 r.2.relations ∧ InR .i64 r.2.e) .ret a w := by
    intro a w h
    obtain ⟨ok, hd, hrv, h0, h1, h2, h3, h4⟩ := h
    exact c_ret2 [.t 4 (.int .i64 r.1)] hd rfl hrv ⟨⟨rfl, ok⟩, h0, h1, h2, h3, h4⟩
  refine enter Tryz.func68 rfl rfl rfl fun a E => ?_
  refine wp_seq ?_
  refine c_region ?_
  refine l_val E ok (y_assign rfl) rfl rfl fun a E => ?_
  refine wpList_nil ?_
  refine t_norm ?_
  refine wp_seq ?_
  refine c_region ?_
  refine l_val E ok (y_move rfl) rfl rfl fun a E => ?_
  obtain ⟨r11, e12, hF⟩ := bnd hF
  refine l_call E go_65 rfl (condition_parser_peek_w N x0 l1 r2 r3 r4 e12 hG ok) rfl rfl ?_
  rintro _ w ⟨⟨rfl, ok⟩, l13, l14, r15, r16, r17⟩
  refine ⟨_, rfl, fun a E => ?_⟩
  refine l_val E ok (y_assign rfl) rfl rfl fun a E => ?_
  refine wpList_nil ?_
  refine t_norm ?_
  refine wp_seq ?_
  refine wp_seq ?_
  refine c_region ?_
  refine l_val E ok (y_move rfl) rfl rfl fun a E => ?_
  refine l_val E ok (y_seql rfl rfl) rfl rfl fun a E => ?_
  refine l_val E ok (y_move rfl) rfl rfl fun a E => ?_
  refine bsplit (r11.1 == ([])) (fun hc18 => ?_) (fun hc18 => ?_)
  · as_aux_lemma =>
      replace hF := cond_t hc18 hF
      replace E := E.upd 13 hc18 rfl
      refine l_skip E rfl rfl fun a E => ?_
      refine l_skip E rfl rfl fun a E => ?_
      refine l_skip E rfl rfl fun a E => ?_
      refine l_skip E rfl rfl fun a E => ?_
      refine l_val E ok (y_pickT rfl rfl) rfl rfl fun a E => ?_
      refine l_val E ok (y_move rfl) rfl rfl fun a E => ?_
      refine l_skip E rfl rfl fun a E => ?_
      refine l_skip E rfl rfl fun a E => ?_
      refine l_skip E rfl rfl fun a E => ?_
      refine l_val E ok (y_pickT rfl rfl) rfl rfl fun a E => ?_
      refine l_val E ok (y_move rfl) rfl rfl fun a E => ?_
      refine l_skip E rfl rfl fun a E => ?_
      refine l_skip E rfl rfl fun a E => ?_
      refine l_skip E rfl rfl fun a E => ?_
      refine l_skip E rfl rfl fun a E => ?_
      refine l_skip E rfl rfl fun a E => ?_
      refine l_skip E rfl rfl fun a E => ?_
      refine l_skip E rfl rfl fun a E => ?_
      refine l_skip E rfl rfl fun a E => ?_
      refine l_val E ok (y_pickT rfl rfl) rfl rfl fun a E => ?_
      refine wpList_nil ?_
      refine t_norm ?_
      refine c_if E rfl (fun _ => ?_) (fun h => by cases h)
      refine c_region ?_
      refine l_val E ok (y_move rfl) rfl rfl fun a E => ?_
      obtain ⟨r19, e20, hF⟩ := bnd hF
      refine l_call E go_40 rfl (condition_parser_fail_w N 3 (show InR .i64 (3) by decide) r11.2 l14 r15 r16 r17 e20 hG ok) rfl rfl ?_
      rintro _ w ⟨⟨rfl, ok⟩, l21, r22, r23, r24⟩
      refine ⟨_, rfl, fun a E => ?_⟩
      refine wpList_nil ?_
      refine t_norm ?_
      refine wp_seq ?_
      refine wp_seq ?_
      refine c_region ?_
      refine l_val E ok (y_move rfl) rfl rfl fun a E => ?_
      refine l_val E ok (y_nilCheck rfl) rfl rfl fun a E => ?_
      refine l_val E ok (y_fieldAddr fo_61_3 rfl) rfl rfl fun a E => ?_
      refine l_val E ok (y_load one_26 rfl (Holds.own 0 rfl rfl)) rfl rfl fun a E => ?_
      refine l_val E ok (y_neq rfl rfl) rfl rfl fun a E => ?_
      refine wpList_nil ?_
      refine t_norm ?_
      refine c_if E rfl (fun hc25 => ?_) (fun hc25 => ?_)
      · replace hF := cond_t hc25 hF
        refine wp_seq ?_
        refine c_region ?_
        refine l_val E ok (y_assign rfl) rfl rfl fun a E => ?_
        refine wpList_nil ?_
        refine t_norm ?_
        refine wp_ret ?_
        refine t_ret ?_
        have hret : condition_parser_number__95_R u m0 S pb0 pb1 pb2 x0 x1 x2 (0, r19) a w := ⟨ok, E.d, ⟨rv_t E rfl, trivial⟩, (show InR .i64 (0) by decide), l21, r22, r23, r24⟩
        obtain rfl := Option.some.inj hF
        exact fin _ _ hret
      replace hF := cond_f hc25 hF
      refine wp_skip ?_
      refine t_norm ?_
      refine wp_seq ?_
      refine c_region ?_
      refine l_val E ok (y_move rfl) rfl rfl fun a E => ?_
      obtain ⟨r26, e27, hF⟩ := bnd hF
      refine l_call E go_93 rfl (strconv_Atoi_w N r11.1 l13 e27 hG ok) rfl rfl ?_
      rintro _ w ⟨⟨rfl, ok⟩, r28⟩
      refine ⟨_, rfl, fun a E => ?_⟩
      refine l_val E ok (y_move rfl) rfl rfl fun a E => ?_
      refine l_val E ok (y_extract rfl rfl) rfl rfl fun a E => ?_
      refine l_val E ok (y_extract rfl rfl) rfl rfl fun a E => ?_
      refine l_val E ok (y_assign rfl) rfl rfl fun a E => ?_
      refine l_val E ok (y_assign rfl) rfl rfl fun a E => ?_
      refine wpList_nil ?_
      refine t_norm ?_
      refine wp_seq ?_
      refine wp_seq ?_
      refine c_region ?_
      refine l_val E ok (y_move rfl) rfl rfl fun a E => ?_
      refine l_val E ok (y_move rfl) rfl rfl fun a E => ?_
      obtain ⟨r29, e30, hF⟩ := bnd hF
      replace ok : Ok u m0 ([(pb1, Obj.cells [(Value.int .i64 x1)].toArray 3 (0, 0))] :: [(pb2, Obj.cells [(Value.int .i64 x2)].toArray 3 (0, 0))] :: [(pb0, Obj.cells [(Value.string (bs r19.s)), (Value.int .i64 r19.at_), (Value.int .i64 r19.relations), (Value.int .i64 r19.e)].toArray 61 (0, 0))] :: S) w := (ok.pk 3 [1, 2, 0] rfl (by decide))
      refine l_callc E rfl go_95 rfl (condition_parser_span_1_w N r26.1 r28 x1 r5 x2 r6 e30 hG ok) rfl rfl ?_
      rintro _ w ⟨⟨rfl, ok⟩, r31⟩
      refine ⟨_, rfl, fun a E => ?_⟩
      refine l_val E ok (y_assign rfl) rfl rfl fun a E => ?_
      refine wpList_nil ?_
      refine t_norm ?_
      refine wp_seq ?_
      refine c_region ?_
      refine l_val E ok (y_move rfl) rfl rfl fun a E => ?_
      refine l_val E ok (y_neq rfl rfl) rfl rfl fun a E => ?_
      refine wpList_nil ?_
      refine t_norm ?_
      refine c_if E rfl (fun hc32 => ?_) (fun hc32 => ?_)
      · replace hF := cond_t hc32 hF
        refine wp_seq ?_
        refine c_region ?_
        refine l_val E ok (y_move rfl) rfl rfl fun a E => ?_
        refine l_val E ok (y_move rfl) rfl rfl fun a E => ?_
        obtain ⟨r33, e34, hF⟩ := bnd hF
        replace ok : Ok u m0 ([(pb0, Obj.cells [(Value.string (bs r19.s)), (Value.int .i64 r19.at_), (Value.int .i64 r19.relations), (Value.int .i64 r19.e)].toArray 61 (0, 0))] :: [(pb1, Obj.cells [(Value.int .i64 x1)].toArray 3 (0, 0))] :: [(pb2, Obj.cells [(Value.int .i64 x2)].toArray 3 (0, 0))] :: S) w := (ok.pk 3 [2, 0, 1] rfl (by decide))
        refine l_call E go_40 rfl (condition_parser_fail_w N r29 r31 r19 l21 r22 r23 r24 e34 hG ok) rfl rfl ?_
        rintro _ w ⟨⟨rfl, ok⟩, l35, r36, r37, r38⟩
        refine ⟨_, rfl, fun a E => ?_⟩
        refine wpList_nil ?_
        refine t_norm ?_
        refine wp_seq ?_
        refine c_region ?_
        refine l_val E ok (y_assign rfl) rfl rfl fun a E => ?_
        refine wpList_nil ?_
        refine t_norm ?_
        refine wp_ret ?_
        refine t_ret ?_
        have hret : condition_parser_number__95_R u m0 S pb0 pb1 pb2 x0 x1 x2 (0, r33) a w := ⟨ok, E.d, ⟨rv_t E rfl, trivial⟩, (show InR .i64 (0) by decide), l35, r36, r37, r38⟩
        obtain rfl := Option.some.inj hF
        exact fin _ _ hret
      replace hF := cond_f hc32 hF
      refine wp_skip ?_
      refine t_norm ?_
      refine wp_seq ?_
      refine c_region ?_
      refine l_val E ok (y_move rfl) rfl rfl fun a E => ?_
      refine l_val E ok (y_nilCheck rfl) rfl rfl fun a E => ?_
      refine l_val E ok (y_fieldAddr fo_61_1 rfl) rfl rfl fun a E => ?_
      refine l_val E ok (y_load one_3 rfl (Holds.own 2 rfl rfl)) rfl rfl fun a E => ?_
      refine l_val E ok (y_move rfl) rfl rfl fun a E => ?_
      refine l_val E ok (y_slen Tryz.underlying9 rfl) rfl rfl fun a E => ?_
      refine l_val E ok (y_addw rfl rfl) rfl rfl fun a E => ?_
      refine l_val E ok (y_nilCheck rfl) rfl rfl fun a E => ?_
      refine l_val E ok (y_fieldAddr fo_61_1 rfl) rfl rfl fun a E => ?_
      refine l_storeB E ok 2 rfl rfl rfl inf_3 rfl rfl ⟨rfl, trivial⟩ rfl rfl fun w ok => ?_
      refine wpList_nil ?_
      refine t_norm ?_
      refine wp_seq ?_
      refine c_region ?_
      refine l_val E ok (y_move rfl) rfl rfl fun a E => ?_
      refine l_val E ok (y_assign rfl) rfl rfl fun a E => ?_
      refine wpList_nil ?_
      refine t_norm ?_
      refine wp_ret ?_
      have hret : condition_parser_number__95_R u m0 S pb0 pb1 pb2 x0 x1 x2 (r26.1, (Parser.mk r19.s (IntKind.wrap .i64 (r19.at_ + (r11.1.length : Int))) r19.relations r19.e)) a w := ⟨(ok.pk 3 [2, 0, 1] rfl (by decide)), E.d, ⟨rv_t E rfl, trivial⟩, r28, l21, (InR.wrap _ _), r23, r24⟩
      obtain rfl := Option.some.inj hF
      exact fin _ _ hret
  replace hF := cond_f hc18 hF
  replace E := E.upd 13 hc18 rfl
  refine l_val E ok (y_move rfl) rfl rfl fun a E => ?_
  obtain ⟨c39, e40, hF⟩ := bnd hF
  refine l_val E ok (y_index Tryz.underlying9 rfl rfl e40) rfl rfl fun a E => ?_
  obtain ⟨r41, e42, hF⟩ := bnd hF
  refine l_call E go_89 rfl (condition_digit_w N (c39.toNat : Int) (InR.byte c39) e42 hG ok) rfl rfl ?_
  rintro _ w ⟨rfl, ok⟩
  refine ⟨_, rfl, fun a E => ?_⟩
  refine l_val E ok (y_not rfl) rfl rfl fun a E => ?_
  refine l_val E ok (y_pickF rfl rfl) rfl rfl fun a E => ?_
  refine l_val E ok (y_move rfl) rfl rfl fun a E => ?_
  refine bsplit (!r41) (fun hc43 => ?_) (fun hc43 => ?_)
  · as_aux_lemma =>
      replace hF := cond_t hc43 hF
      replace E := E.upd 19 hc43 rfl
      refine l_skip E rfl rfl fun a E => ?_
      refine l_skip E rfl rfl fun a E => ?_
      refine l_skip E rfl rfl fun a E => ?_
      refine l_val E ok (y_pickT rfl rfl) rfl rfl fun a E => ?_
      refine l_val E ok (y_move rfl) rfl rfl fun a E => ?_
      refine l_skip E rfl rfl fun a E => ?_
      refine l_skip E rfl rfl fun a E => ?_
      refine l_skip E rfl rfl fun a E => ?_
      refine l_skip E rfl rfl fun a E => ?_
      refine l_skip E rfl rfl fun a E => ?_
      refine l_skip E rfl rfl fun a E => ?_
      refine l_skip E rfl rfl fun a E => ?_
      refine l_skip E rfl rfl fun a E => ?_
      refine l_val E ok (y_pickT rfl rfl) rfl rfl fun a E => ?_
      refine wpList_nil ?_
      refine t_norm ?_
      refine c_if E rfl (fun _ => ?_) (fun h => by cases h)
      refine c_region ?_
      refine l_val E ok (y_move rfl) rfl rfl fun a E => ?_
      obtain ⟨r44, e45, hF⟩ := bnd hF
      refine l_call E go_40 rfl (condition_parser_fail_w N 3 (show InR .i64 (3) by decide) r11.2 l14 r15 r16 r17 e45 hG ok) rfl rfl ?_
      rintro _ w ⟨⟨rfl, ok⟩, l46, r47, r48, r49⟩
      refine ⟨_, rfl, fun a E => ?_⟩
      refine wpList_nil ?_
      refine t_norm ?_
      refine wp_seq ?_
      refine wp_seq ?_
      refine c_region ?_
      refine l_val E ok (y_move rfl) rfl rfl fun a E => ?_
      refine l_val E ok (y_nilCheck rfl) rfl rfl fun a E => ?_
      refine l_val E ok (y_fieldAddr fo_61_3 rfl) rfl rfl fun a E => ?_
      refine l_val E ok (y_load one_26 rfl (Holds.own 0 rfl rfl)) rfl rfl fun a E => ?_
      refine l_val E ok (y_neq rfl rfl) rfl rfl fun a E => ?_
      refine wpList_nil ?_
      refine t_norm ?_
      refine c_if E rfl (fun hc50 => ?_) (fun hc50 => ?_)
      · replace hF := cond_t hc50 hF
        refine wp_seq ?_
        refine c_region ?_
        refine l_val E ok (y_assign rfl) rfl rfl fun a E => ?_
        refine wpList_nil ?_
        refine t_norm ?_
        refine wp_ret ?_
        refine t_ret ?_
        have hret : condition_parser_number__95_R u m0 S pb0 pb1 pb2 x0 x1 x2 (0, r44) a w := ⟨ok, E.d, ⟨rv_t E rfl, trivial⟩, (show InR .i64 (0) by decide), l46, r47, r48, r49⟩
        obtain rfl := Option.some.inj hF
        exact fin _ _ hret
      replace hF := cond_f hc50 hF
      refine wp_skip ?_
      refine t_norm ?_
      refine wp_seq ?_
      refine c_region ?_
      refine l_val E ok (y_move rfl) rfl rfl fun a E => ?_
      obtain ⟨r51, e52, hF⟩ := bnd hF
      refine l_call E go_93 rfl (strconv_Atoi_w N r11.1 l13 e52 hG ok) rfl rfl ?_
      rintro _ w ⟨⟨rfl, ok⟩, r53⟩
      refine ⟨_, rfl, fun a E => ?_⟩
      refine l_val E ok (y_move rfl) rfl rfl fun a E => ?_
      refine l_val E ok (y_extract rfl rfl) rfl rfl fun a E => ?_
      refine l_val E ok (y_extract rfl rfl) rfl rfl fun a E => ?_
      refine l_val E ok (y_assign rfl) rfl rfl fun a E => ?_
      refine l_val E ok (y_assign rfl) rfl rfl fun a E => ?_
      refine wpList_nil ?_
      refine t_norm ?_
      refine wp_seq ?_
      refine wp_seq ?_
      refine c_region ?_
      refine l_val E ok (y_move rfl) rfl rfl fun a E => ?_
      refine l_val E ok (y_move rfl) rfl rfl fun a E => ?_
      obtain ⟨r54, e55, hF⟩ := bnd hF
      replace ok : Ok u m0 ([(pb1, Obj.cells [(Value.int .i64 x1)].toArray 3 (0, 0))] :: [(pb2, Obj.cells [(Value.int .i64 x2)].toArray 3 (0, 0))] :: [(pb0, Obj.cells [(Value.string (bs r44.s)), (Value.int .i64 r44.at_), (Value.int .i64 r44.relations), (Value.int .i64 r44.e)].toArray 61 (0, 0))] :: S) w := (ok.pk 3 [1, 2, 0] rfl (by decide))
      refine l_callc E rfl go_95 rfl (condition_parser_span_1_w N r51.1 r53 x1 r5 x2 r6 e55 hG ok) rfl rfl ?_
      rintro _ w ⟨⟨rfl, ok⟩, r56⟩
      refine ⟨_, rfl, fun a E => ?_⟩
      refine l_val E ok (y_assign rfl) rfl rfl fun a E => ?_
      refine wpList_nil ?_
      refine t_norm ?_
      refine wp_seq ?_
      refine c_region ?_
      refine l_val E ok (y_move rfl) rfl rfl fun a E => ?_
      refine l_val E ok (y_neq rfl rfl) rfl rfl fun a E => ?_
      refine wpList_nil ?_
      refine t_norm ?_
      refine c_if E rfl (fun hc57 => ?_) (fun hc57 => ?_)
      · replace hF := cond_t hc57 hF
        refine wp_seq ?_
        refine c_region ?_
        refine l_val E ok (y_move rfl) rfl rfl fun a E => ?_
        refine l_val E ok (y_move rfl) rfl rfl fun a E => ?_
        obtain ⟨r58, e59, hF⟩ := bnd hF
        replace ok : Ok u m0 ([(pb0, Obj.cells [(Value.string (bs r44.s)), (Value.int .i64 r44.at_), (Value.int .i64 r44.relations), (Value.int .i64 r44.e)].toArray 61 (0, 0))] :: [(pb1, Obj.cells [(Value.int .i64 x1)].toArray 3 (0, 0))] :: [(pb2, Obj.cells [(Value.int .i64 x2)].toArray 3 (0, 0))] :: S) w := (ok.pk 3 [2, 0, 1] rfl (by decide))
        refine l_call E go_40 rfl (condition_parser_fail_w N r54 r56 r44 l46 r47 r48 r49 e59 hG ok) rfl rfl ?_
        rintro _ w ⟨⟨rfl, ok⟩, l60, r61, r62, r63⟩
        refine ⟨_, rfl, fun a E => ?_⟩
        refine wpList_nil ?_
        refine t_norm ?_
        refine wp_seq ?_
        refine c_region ?_
        refine l_val E ok (y_assign rfl) rfl rfl fun a E => ?_
        refine wpList_nil ?_
        refine t_norm ?_
        refine wp_ret ?_
        refine t_ret ?_
        have hret : condition_parser_number__95_R u m0 S pb0 pb1 pb2 x0 x1 x2 (0, r58) a w := ⟨ok, E.d, ⟨rv_t E rfl, trivial⟩, (show InR .i64 (0) by decide), l60, r61, r62, r63⟩
        obtain rfl := Option.some.inj hF
        exact fin _ _ hret
      replace hF := cond_f hc57 hF
      refine wp_skip ?_
      refine t_norm ?_
      refine wp_seq ?_
      refine c_region ?_
      refine l_val E ok (y_move rfl) rfl rfl fun a E => ?_
      refine l_val E ok (y_nilCheck rfl) rfl rfl fun a E => ?_
      refine l_val E ok (y_fieldAddr fo_61_1 rfl) rfl rfl fun a E => ?_
      refine l_val E ok (y_load one_3 rfl (Holds.own 2 rfl rfl)) rfl rfl fun a E => ?_
      refine l_val E ok (y_move rfl) rfl rfl fun a E => ?_
      refine l_val E ok (y_slen Tryz.underlying9 rfl) rfl rfl fun a E => ?_
      refine l_val E ok (y_addw rfl rfl) rfl rfl fun a E => ?_
      refine l_val E ok (y_nilCheck rfl) rfl rfl fun a E => ?_
      refine l_val E ok (y_fieldAddr fo_61_1 rfl) rfl rfl fun a E => ?_
      refine l_storeB E ok 2 rfl rfl rfl inf_3 rfl rfl ⟨rfl, trivial⟩ rfl rfl fun w ok => ?_
      refine wpList_nil ?_
      refine t_norm ?_
      refine wp_seq ?_
      refine c_region ?_
      refine l_val E ok (y_move rfl) rfl rfl fun a E => ?_
      refine l_val E ok (y_assign rfl) rfl rfl fun a E => ?_
      refine wpList_nil ?_
      refine t_norm ?_
      refine wp_ret ?_
      have hret : condition_parser_number__95_R u m0 S pb0 pb1 pb2 x0 x1 x2 (r51.1, (Parser.mk r44.s (IntKind.wrap .i64 (r44.at_ + (r11.1.length : Int))) r44.relations r44.e)) a w := ⟨(ok.pk 3 [2, 0, 1] rfl (by decide)), E.d, ⟨rv_t E rfl, trivial⟩, r53, l46, (InR.wrap _ _), r48, r49⟩
      obtain rfl := Option.some.inj hF
      exact fin _ _ hret
  replace hF := cond_f hc43 hF
  replace E := E.upd 19 hc43 rfl
  refine l_val E ok (y_move rfl) rfl rfl fun a E => ?_
  refine l_val E ok (y_slen Tryz.underlying9 rfl) rfl rfl fun a E => ?_
  refine l_val E ok (y_gtr rfl rfl) rfl rfl fun a E => ?_
  refine l_val E ok (y_pickF rfl rfl) rfl rfl fun a E => ?_
  refine l_val E ok (y_move rfl) rfl rfl fun a E => ?_
  refine bsplit (decide ((r11.1.length : Int) > 3)) (fun hc64 => ?_) (fun hc64 => ?_)
  · as_aux_lemma =>
      replace hF := cond_t hc64 hF
      replace E := E.upd 24 hc64 rfl
      refine l_skip E rfl rfl fun a E => ?_
      refine l_skip E rfl rfl fun a E => ?_
      refine l_skip E rfl rfl fun a E => ?_
      refine l_skip E rfl rfl fun a E => ?_
      refine l_skip E rfl rfl fun a E => ?_
      refine l_skip E rfl rfl fun a E => ?_
      refine l_skip E rfl rfl fun a E => ?_
      refine l_skip E rfl rfl fun a E => ?_
      refine l_val E ok (y_pickT rfl rfl) rfl rfl fun a E => ?_
      refine wpList_nil ?_
      refine t_norm ?_
      refine c_if E rfl (fun _ => ?_) (fun h => by cases h)
      refine c_region ?_
      refine l_val E ok (y_move rfl) rfl rfl fun a E => ?_
      obtain ⟨r65, e66, hF⟩ := bnd hF
      refine l_call E go_40 rfl (condition_parser_fail_w N 3 (show InR .i64 (3) by decide) r11.2 l14 r15 r16 r17 e66 hG ok) rfl rfl ?_
      rintro _ w ⟨⟨rfl, ok⟩, l67, r68, r69, r70⟩
      refine ⟨_, rfl, fun a E => ?_⟩
      refine wpList_nil ?_
      refine t_norm ?_
      refine wp_seq ?_
      refine wp_seq ?_
      refine c_region ?_
      refine l_val E ok (y_move rfl) rfl rfl fun a E => ?_
      refine l_val E ok (y_nilCheck rfl) rfl rfl fun a E => ?_
      refine l_val E ok (y_fieldAddr fo_61_3 rfl) rfl rfl fun a E => ?_
      refine l_val E ok (y_load one_26 rfl (Holds.own 0 rfl rfl)) rfl rfl fun a E => ?_
      refine l_val E ok (y_neq rfl rfl) rfl rfl fun a E => ?_
      refine wpList_nil ?_
      refine t_norm ?_
      refine c_if E rfl (fun hc71 => ?_) (fun hc71 => ?_)
      · replace hF := cond_t hc71 hF
        refine wp_seq ?_
        refine c_region ?_
        refine l_val E ok (y_assign rfl) rfl rfl fun a E => ?_
        refine wpList_nil ?_
        refine t_norm ?_
        refine wp_ret ?_
        refine t_ret ?_
        have hret : condition_parser_number__95_R u m0 S pb0 pb1 pb2 x0 x1 x2 (0, r65) a w := ⟨ok, E.d, ⟨rv_t E rfl, trivial⟩, (show InR .i64 (0) by decide), l67, r68, r69, r70⟩
        obtain rfl := Option.some.inj hF
        exact fin _ _ hret
      replace hF := cond_f hc71 hF
      refine wp_skip ?_
      refine t_norm ?_
      refine wp_seq ?_
      refine c_region ?_
      refine l_val E ok (y_move rfl) rfl rfl fun a E => ?_
      obtain ⟨r72, e73, hF⟩ := bnd hF
      refine l_call E go_93 rfl (strconv_Atoi_w N r11.1 l13 e73 hG ok) rfl rfl ?_
      rintro _ w ⟨⟨rfl, ok⟩, r74⟩
      refine ⟨_, rfl, fun a E => ?_⟩
      refine l_val E ok (y_move rfl) rfl rfl fun a E => ?_
      refine l_val E ok (y_extract rfl rfl) rfl rfl fun a E => ?_
      refine l_val E ok (y_extract rfl rfl) rfl rfl fun a E => ?_
      refine l_val E ok (y_assign rfl) rfl rfl fun a E => ?_
      refine l_val E ok (y_assign rfl) rfl rfl fun a E => ?_
      refine wpList_nil ?_
      refine t_norm ?_
      refine wp_seq ?_
      refine wp_seq ?_
      refine c_region ?_
      refine l_val E ok (y_move rfl) rfl rfl fun a E => ?_
      refine l_val E ok (y_move rfl) rfl rfl fun a E => ?_
      obtain ⟨r75, e76, hF⟩ := bnd hF
      replace ok : Ok u m0 ([(pb1, Obj.cells [(Value.int .i64 x1)].toArray 3 (0, 0))] :: [(pb2, Obj.cells [(Value.int .i64 x2)].toArray 3 (0, 0))] :: [(pb0, Obj.cells [(Value.string (bs r65.s)), (Value.int .i64 r65.at_), (Value.int .i64 r65.relations), (Value.int .i64 r65.e)].toArray 61 (0, 0))] :: S) w := (ok.pk 3 [1, 2, 0] rfl (by decide))
      refine l_callc E rfl go_95 rfl (condition_parser_span_1_w N r72.1 r74 x1 r5 x2 r6 e76 hG ok) rfl rfl ?_
      rintro _ w ⟨⟨rfl, ok⟩, r77⟩
      refine ⟨_, rfl, fun a E => ?_⟩
      refine l_val E ok (y_assign rfl) rfl rfl fun a E => ?_
      refine wpList_nil ?_
      refine t_norm ?_
      refine wp_seq ?_
      refine c_region ?_
      refine l_val E ok (y_move rfl) rfl rfl fun a E => ?_
      refine l_val E ok (y_neq rfl rfl) rfl rfl fun a E => ?_
      refine wpList_nil ?_
      refine t_norm ?_
      refine c_if E rfl (fun hc78 => ?_) (fun hc78 => ?_)
      · replace hF := cond_t hc78 hF
        refine wp_seq ?_
        refine c_region ?_
        refine l_val E ok (y_move rfl) rfl rfl fun a E => ?_
        refine l_val E ok (y_move rfl) rfl rfl fun a E => ?_
        obtain ⟨r79, e80, hF⟩ := bnd hF
        replace ok : Ok u m0 ([(pb0, Obj.cells [(Value.string (bs r65.s)), (Value.int .i64 r65.at_), (Value.int .i64 r65.relations), (Value.int .i64 r65.e)].toArray 61 (0, 0))] :: [(pb1, Obj.cells [(Value.int .i64 x1)].toArray 3 (0, 0))] :: [(pb2, Obj.cells [(Value.int .i64 x2)].toArray 3 (0, 0))] :: S) w := (ok.pk 3 [2, 0, 1] rfl (by decide))
        refine l_call E go_40 rfl (condition_parser_fail_w N r75 r77 r65 l67 r68 r69 r70 e80 hG ok) rfl rfl ?_
        rintro _ w ⟨⟨rfl, ok⟩, l81, r82, r83, r84⟩
        refine ⟨_, rfl, fun a E => ?_⟩
        refine wpList_nil ?_
        refine t_norm ?_
        refine wp_seq ?_
        refine c_region ?_
        refine l_val E ok (y_assign rfl) rfl rfl fun a E => ?_
        refine wpList_nil ?_
        refine t_norm ?_
        refine wp_ret ?_
        refine t_ret ?_
        have hret : condition_parser_number__95_R u m0 S pb0 pb1 pb2 x0 x1 x2 (0, r79) a w := ⟨ok, E.d, ⟨rv_t E rfl, trivial⟩, (show InR .i64 (0) by decide), l81, r82, r83, r84⟩
        obtain rfl := Option.some.inj hF
        exact fin _ _ hret
      replace hF := cond_f hc78 hF
      refine wp_skip ?_
      refine t_norm ?_
      refine wp_seq ?_
      refine c_region ?_
      refine l_val E ok (y_move rfl) rfl rfl fun a E => ?_
      refine l_val E ok (y_nilCheck rfl) rfl rfl fun a E => ?_
      refine l_val E ok (y_fieldAddr fo_61_1 rfl) rfl rfl fun a E => ?_
      refine l_val E ok (y_load one_3 rfl (Holds.own 2 rfl rfl)) rfl rfl fun a E => ?_
      refine l_val E ok (y_move rfl) rfl rfl fun a E => ?_
      refine l_val E ok (y_slen Tryz.underlying9 rfl) rfl rfl fun a E => ?_
      refine l_val E ok (y_addw rfl rfl) rfl rfl fun a E => ?_
      refine l_val E ok (y_nilCheck rfl) rfl rfl fun a E => ?_
      refine l_val E ok (y_fieldAddr fo_61_1 rfl) rfl rfl fun a E => ?_
      refine l_storeB E ok 2 rfl rfl rfl inf_3 rfl rfl ⟨rfl, trivial⟩ rfl rfl fun w ok => ?_
      refine wpList_nil ?_
      refine t_norm ?_
      refine wp_seq ?_
      refine c_region ?_
      refine l_val E ok (y_move rfl) rfl rfl fun a E => ?_
      refine l_val E ok (y_assign rfl) rfl rfl fun a E => ?_
      refine wpList_nil ?_
      refine t_norm ?_
      refine wp_ret ?_
      have hret : condition_parser_number__95_R u m0 S pb0 pb1 pb2 x0 x1 x2 (r72.1, (Parser.mk r65.s (IntKind.wrap .i64 (r65.at_ + (r11.1.length : Int))) r65.relations r65.e)) a w := ⟨(ok.pk 3 [2, 0, 1] rfl (by decide)), E.d, ⟨rv_t E rfl, trivial⟩, r74, l67, (InR.wrap _ _), r69, r70⟩
      obtain rfl := Option.some.inj hF
      exact fin _ _ hret
  replace hF := cond_f hc64 hF
  replace E := E.upd 24 hc64 rfl
  refine l_val E ok (y_move rfl) rfl rfl fun a E => ?_
  refine l_val E ok (y_slen Tryz.underlying9 rfl) rfl rfl fun a E => ?_
  refine l_val E ok (y_gtr rfl rfl) rfl rfl fun a E => ?_
  refine l_val E ok (y_move rfl) rfl rfl fun a E => ?_
  refine bsplit (decide ((r11.1.length : Int) > 1)) (fun hc85 => ?_) (fun hc85 => ?_)
  rotate_left
  · as_aux_lemma =>
      replace hF := cond_f hc85 hF
      replace E := E.upd 28 hc85 rfl
      refine l_skip E rfl rfl fun a E => ?_
      refine l_skip E rfl rfl fun a E => ?_
      refine l_skip E rfl rfl fun a E => ?_
      refine l_val E ok (y_pickF rfl rfl) rfl rfl fun a E => ?_
      refine l_val E ok (y_pickF rfl rfl) rfl rfl fun a E => ?_
      refine wpList_nil ?_
      refine t_norm ?_
      refine c_if E rfl (fun h => by cases h) (fun _ => ?_)
      refine wp_skip ?_
      refine t_norm ?_
      refine wp_seq ?_
      refine wp_seq ?_
      refine c_region ?_
      refine l_val E ok (y_move rfl) rfl rfl fun a E => ?_
      refine l_val E ok (y_nilCheck rfl) rfl rfl fun a E => ?_
      refine l_val E ok (y_fieldAddr fo_61_3 rfl) rfl rfl fun a E => ?_
      refine l_val E ok (y_load one_26 rfl (Holds.own 0 rfl rfl)) rfl rfl fun a E => ?_
      refine l_val E ok (y_neq rfl rfl) rfl rfl fun a E => ?_
      refine wpList_nil ?_
      refine t_norm ?_
      refine c_if E rfl (fun hc118 => ?_) (fun hc118 => ?_)
      · replace hF := cond_t hc118 hF
        refine wp_seq ?_
        refine c_region ?_
        refine l_val E ok (y_assign rfl) rfl rfl fun a E => ?_
        refine wpList_nil ?_
        refine t_norm ?_
        refine wp_ret ?_
        refine t_ret ?_
        have hret : condition_parser_number__95_R u m0 S pb0 pb1 pb2 x0 x1 x2 (0, r11.2) a w := ⟨ok, E.d, ⟨rv_t E rfl, trivial⟩, (show InR .i64 (0) by decide), l14, r15, r16, r17⟩
        obtain rfl := Option.some.inj hF
        exact fin _ _ hret
      replace hF := cond_f hc118 hF
      refine wp_skip ?_
      refine t_norm ?_
      refine wp_seq ?_
      refine c_region ?_
      refine l_val E ok (y_move rfl) rfl rfl fun a E => ?_
      obtain ⟨r119, e120, hF⟩ := bnd hF
      refine l_call E go_93 rfl (strconv_Atoi_w N r11.1 l13 e120 hG ok) rfl rfl ?_
      rintro _ w ⟨⟨rfl, ok⟩, r121⟩
      refine ⟨_, rfl, fun a E => ?_⟩
      refine l_val E ok (y_move rfl) rfl rfl fun a E => ?_
      refine l_val E ok (y_extract rfl rfl) rfl rfl fun a E => ?_
      refine l_val E ok (y_extract rfl rfl) rfl rfl fun a E => ?_
      refine l_val E ok (y_assign rfl) rfl rfl fun a E => ?_
      refine l_val E ok (y_assign rfl) rfl rfl fun a E => ?_
      refine wpList_nil ?_
      refine t_norm ?_
      refine wp_seq ?_
      refine wp_seq ?_
      refine c_region ?_
      refine l_val E ok (y_move rfl) rfl rfl fun a E => ?_
      refine l_val E ok (y_move rfl) rfl rfl fun a E => ?_
      obtain ⟨r122, e123, hF⟩ := bnd hF
      replace ok : Ok u m0 ([(pb1, Obj.cells [(Value.int .i64 x1)].toArray 3 (0, 0))] :: [(pb2, Obj.cells [(Value.int .i64 x2)].toArray 3 (0, 0))] :: [(pb0, Obj.cells [(Value.string (bs r11.2.s)), (Value.int .i64 r11.2.at_), (Value.int .i64 r11.2.relations), (Value.int .i64 r11.2.e)].toArray 61 (0, 0))] :: S) w := (ok.pk 3 [1, 2, 0] rfl (by decide))
      refine l_callc E rfl go_95 rfl (condition_parser_span_1_w N r119.1 r121 x1 r5 x2 r6 e123 hG ok) rfl rfl ?_
      rintro _ w ⟨⟨rfl, ok⟩, r124⟩
      refine ⟨_, rfl, fun a E => ?_⟩
      refine l_val E ok (y_assign rfl) rfl rfl fun a E => ?_
      refine wpList_nil ?_
      refine t_norm ?_
      refine wp_seq ?_
      refine c_region ?_
      refine l_val E ok (y_move rfl) rfl rfl fun a E => ?_
      refine l_val E ok (y_neq rfl rfl) rfl rfl fun a E => ?_
      refine wpList_nil ?_
      refine t_norm ?_
      refine c_if E rfl (fun hc125 => ?_) (fun hc125 => ?_)
      · replace hF := cond_t hc125 hF
        refine wp_seq ?_
        refine c_region ?_
        refine l_val E ok (y_move rfl) rfl rfl fun a E => ?_
        refine l_val E ok (y_move rfl) rfl rfl fun a E => ?_
        obtain ⟨r126, e127, hF⟩ := bnd hF
        replace ok : Ok u m0 ([(pb0, Obj.cells [(Value.string (bs r11.2.s)), (Value.int .i64 r11.2.at_), (Value.int .i64 r11.2.relations), (Value.int .i64 r11.2.e)].toArray 61 (0, 0))] :: [(pb1, Obj.cells [(Value.int .i64 x1)].toArray 3 (0, 0))] :: [(pb2, Obj.cells [(Value.int .i64 x2)].toArray 3 (0, 0))] :: S) w := (ok.pk 3 [2, 0, 1] rfl (by decide))
        refine l_call E go_40 rfl (condition_parser_fail_w N r122 r124 r11.2 l14 r15 r16 r17 e127 hG ok) rfl rfl ?_
        rintro _ w ⟨⟨rfl, ok⟩, l128, r129, r130, r131⟩
        refine ⟨_, rfl, fun a E => ?_⟩
        refine wpList_nil ?_
        refine t_norm ?_
        refine wp_seq ?_
        refine c_region ?_
        refine l_val E ok (y_assign rfl) rfl rfl fun a E => ?_
        refine wpList_nil ?_
        refine t_norm ?_
        refine wp_ret ?_
        refine t_ret ?_
        have hret : condition_parser_number__95_R u m0 S pb0 pb1 pb2 x0 x1 x2 (0, r126) a w := ⟨ok, E.d, ⟨rv_t E rfl, trivial⟩, (show InR .i64 (0) by decide), l128, r129, r130, r131⟩
        obtain rfl := Option.some.inj hF
        exact fin _ _ hret
      replace hF := cond_f hc125 hF
      refine wp_skip ?_
      refine t_norm ?_
      refine wp_seq ?_
      refine c_region ?_
      refine l_val E ok (y_move rfl) rfl rfl fun a E => ?_
      refine l_val E ok (y_nilCheck rfl) rfl rfl fun a E => ?_
      refine l_val E ok (y_fieldAddr fo_61_1 rfl) rfl rfl fun a E => ?_
      refine l_val E ok (y_load one_3 rfl (Holds.own 2 rfl rfl)) rfl rfl fun a E => ?_
      refine l_val E ok (y_move rfl) rfl rfl fun a E => ?_
      refine l_val E ok (y_slen Tryz.underlying9 rfl) rfl rfl fun a E => ?_
      refine l_val E ok (y_addw rfl rfl) rfl rfl fun a E => ?_
      refine l_val E ok (y_nilCheck rfl) rfl rfl fun a E => ?_
      refine l_val E ok (y_fieldAddr fo_61_1 rfl) rfl rfl fun a E => ?_
      refine l_storeB E ok 2 rfl rfl rfl inf_3 rfl rfl ⟨rfl, trivial⟩ rfl rfl fun w ok => ?_
      refine wpList_nil ?_
      refine t_norm ?_
      refine wp_seq ?_
      refine c_region ?_
      refine l_val E ok (y_move rfl) rfl rfl fun a E => ?_
      refine l_val E ok (y_assign rfl) rfl rfl fun a E => ?_
      refine wpList_nil ?_
      refine t_norm ?_
      refine wp_ret ?_
      have hret : condition_parser_number__95_R u m0 S pb0 pb1 pb2 x0 x1 x2 (r119.1, (Parser.mk r11.2.s (IntKind.wrap .i64 (r11.2.at_ + (r11.1.length : Int))) r11.2.relations r11.2.e)) a w := ⟨(ok.pk 3 [2, 0, 1] rfl (by decide)), E.d, ⟨rv_t E rfl, trivial⟩, r121, l14, (InR.wrap _ _), r16, r17⟩
      obtain rfl := Option.some.inj hF
      exact fin _ _ hret
  replace hF := cond_t hc85 hF
  replace E := E.upd 28 hc85 rfl
  refine l_val E ok (y_move rfl) rfl rfl fun a E => ?_
  obtain ⟨c86, e87, hF⟩ := bnd hF
  refine l_val E ok (y_index Tryz.underlying9 rfl rfl e87) rfl rfl fun a E => ?_
  refine l_val E ok (y_eql rfl rfl) rfl rfl fun a E => ?_
  refine l_val E ok (y_pickT rfl rfl) rfl rfl fun a E => ?_
  refine l_val E ok (y_pickF rfl rfl) rfl rfl fun a E => ?_
  refine wpList_nil ?_
  refine t_norm ?_
  obtain ⟨o88, hJ, hF⟩ := bnd hF
  refine c_mono (Q' := fun e a w => e = .normal ∧ Ok u m0 ([(pb0, Obj.cells [(Value.string (bs o88.s)), (Value.int .i64 o88.at_), (Value.int .i64 o88.relations), (Value.int .i64 o88.e)].toArray 61 (0, 0))] :: [(pb1, Obj.cells [(Value.int .i64 x1)].toArray 3 (0, 0))] :: [(pb2, Obj.cells [(Value.int .i64 x2)].toArray 3 (0, 0))] :: S) w ∧ Env 64 a [(0, (Value.pointer (some ⟨pb0, 0, none⟩))), (1, (Value.func (.func 95) #[] #[.pointer (some ⟨pb1, 0, none⟩), .pointer (some ⟨pb2, 0, none⟩)])), (5, (Value.string (bs r11.1)))] ∧ o88.s.length ≤ LIMS ∧ InR .i64 o88.at_ ∧ InR .i64 o88.relations ∧ InR .i64 o88.e) ?_ ?_
  · replace hF := hJ
    clear hJ
    refine c_if E rfl (fun hc93 => ?_) (fun hc93 => ?_)
    rotate_left
    · replace hF := cond_f hc93 hF
      refine wp_skip ?_
      obtain rfl := Option.some.inj hF
      exact ⟨rfl, ⟨ok, E.keep [0, 1, 5], l14, r15, r16, r17⟩⟩
    replace hF := cond_t hc93 hF
    refine c_region ?_
    refine l_val E ok (y_move rfl) rfl rfl fun a E => ?_
    obtain ⟨r94, e95, hF⟩ := bnd hF
    refine l_call E go_40 rfl (condition_parser_fail_w N 3 (show InR .i64 (3) by decide) r11.2 l14 r15 r16 r17 e95 hG ok) rfl rfl ?_
    rintro _ w ⟨⟨rfl, ok⟩, l96, r97, r98, r99⟩
    refine ⟨_, rfl, fun a E => ?_⟩
    refine wpList_nil ?_
    obtain rfl := Option.some.inj hF
    exact ⟨rfl, ⟨ok, E.keep [0, 1, 5], l96, r97, r98, r99⟩⟩
  clear hJ
  intro e a w hO
  obtain ⟨rfl, ok, E, l100, r101, r102, r103⟩ := hO
  refine t_norm ?_
  refine wp_seq ?_
  refine wp_seq ?_
  refine c_region ?_
  refine l_val E ok (y_move rfl) rfl rfl fun a E => ?_
  refine l_val E ok (y_nilCheck rfl) rfl rfl fun a E => ?_
  refine l_val E ok (y_fieldAddr fo_61_3 rfl) rfl rfl fun a E => ?_
  refine l_val E ok (y_load one_26 rfl (Holds.own 0 rfl rfl)) rfl rfl fun a E => ?_
  refine l_val E ok (y_neq rfl rfl) rfl rfl fun a E => ?_
  refine wpList_nil ?_
  refine t_norm ?_
  refine c_if E rfl (fun hc104 => ?_) (fun hc104 => ?_)
  · replace hF := cond_t hc104 hF
    refine wp_seq ?_
    refine c_region ?_
    refine l_val E ok (y_assign rfl) rfl rfl fun a E => ?_
    refine wpList_nil ?_
    refine t_norm ?_
    refine wp_ret ?_
    refine t_ret ?_
    have hret : condition_parser_number__95_R u m0 S pb0 pb1 pb2 x0 x1 x2 (0, o88) a w := ⟨ok, E.d, ⟨rv_t E rfl, trivial⟩, (show InR .i64 (0) by decide), l100, r101, r102, r103⟩
    obtain rfl := Option.some.inj hF
    exact fin _ _ hret
  replace hF := cond_f hc104 hF
  refine wp_skip ?_
  refine t_norm ?_
  refine wp_seq ?_
  refine c_region ?_
  refine l_val E ok (y_move rfl) rfl rfl fun a E => ?_
  obtain ⟨r105, e106, hF⟩ := bnd hF
  refine l_call E go_93 rfl (strconv_Atoi_w N r11.1 l13 e106 hG ok) rfl rfl ?_
  rintro _ w ⟨⟨rfl, ok⟩, r107⟩
  refine ⟨_, rfl, fun a E => ?_⟩
  refine l_val E ok (y_move rfl) rfl rfl fun a E => ?_
  refine l_val E ok (y_extract rfl rfl) rfl rfl fun a E => ?_
  refine l_val E ok (y_extract rfl rfl) rfl rfl fun a E => ?_
  refine l_val E ok (y_assign rfl) rfl rfl fun a E => ?_
  refine l_val E ok (y_assign rfl) rfl rfl fun a E => ?_
  refine wpList_nil ?_
  refine t_norm ?_
  refine wp_seq ?_
  refine wp_seq ?_
  refine c_region ?_
  refine l_val E ok (y_move rfl) rfl rfl fun a E => ?_
  refine l_val E ok (y_move rfl) rfl rfl fun a E => ?_
  obtain ⟨r108, e109, hF⟩ := bnd hF
  replace ok : Ok u m0 ([(pb1, Obj.cells [(Value.int .i64 x1)].toArray 3 (0, 0))] :: [(pb2, Obj.cells [(Value.int .i64 x2)].toArray 3 (0, 0))] :: [(pb0, Obj.cells [(Value.string (bs o88.s)), (Value.int .i64 o88.at_), (Value.int .i64 o88.relations), (Value.int .i64 o88.e)].toArray 61 (0, 0))] :: S) w := (ok.pk 3 [1, 2, 0] rfl (by decide))
  refine l_callc E rfl go_95 rfl (condition_parser_span_1_w N r105.1 r107 x1 r5 x2 r6 e109 hG ok) rfl rfl ?_
  rintro _ w ⟨⟨rfl, ok⟩, r110⟩
  refine ⟨_, rfl, fun a E => ?_⟩
  refine l_val E ok (y_assign rfl) rfl rfl fun a E => ?_
  refine wpList_nil ?_
  refine t_norm ?_
  refine wp_seq ?_
  refine c_region ?_
  refine l_val E ok (y_move rfl) rfl rfl fun a E => ?_
  refine l_val E ok (y_neq rfl rfl) rfl rfl fun a E => ?_
  refine wpList_nil ?_
  refine t_norm ?_
  refine c_if E rfl (fun hc111 => ?_) (fun hc111 => ?_)
  · replace hF := cond_t hc111 hF
    refine wp_seq ?_
    refine c_region ?_
    refine l_val E ok (y_move rfl) rfl rfl fun a E => ?_
    refine l_val E ok (y_move rfl) rfl rfl fun a E => ?_
    obtain ⟨r112, e113, hF⟩ := bnd hF
    replace ok : Ok u m0 ([(pb0, Obj.cells [(Value.string (bs o88.s)), (Value.int .i64 o88.at_), (Value.int .i64 o88.relations), (Value.int .i64 o88.e)].toArray 61 (0, 0))] :: [(pb1, Obj.cells [(Value.int .i64 x1)].toArray 3 (0, 0))] :: [(pb2, Obj.cells [(Value.int .i64 x2)].toArray 3 (0, 0))] :: S) w := (ok.pk 3 [2, 0, 1] rfl (by decide))
    refine l_call E go_40 rfl (condition_parser_fail_w N r108 r110 o88 l100 r101 r102 r103 e113 hG ok) rfl rfl ?_
    rintro _ w ⟨⟨rfl, ok⟩, l114, r115, r116, r117⟩
    refine ⟨_, rfl, fun a E => ?_⟩
    refine wpList_nil ?_
    refine t_norm ?_
    refine wp_seq ?_
    refine c_region ?_
    refine l_val E ok (y_assign rfl) rfl rfl fun a E => ?_
    refine wpList_nil ?_
    refine t_norm ?_
    refine wp_ret ?_
    refine t_ret ?_
    have hret : condition_parser_number__95_R u m0 S pb0 pb1 pb2 x0 x1 x2 (0, r112) a w := ⟨ok, E.d, ⟨rv_t E rfl, trivial⟩, (show InR .i64 (0) by decide), l114, r115, r116, r117⟩
    obtain rfl := Option.some.inj hF
    exact fin _ _ hret
  replace hF := cond_f hc111 hF
  refine wp_skip ?_
  refine t_norm ?_
  refine wp_seq ?_
  refine c_region ?_
  refine l_val E ok (y_move rfl) rfl rfl fun a E => ?_
  refine l_val E ok (y_nilCheck rfl) rfl rfl fun a E => ?_
  refine l_val E ok (y_fieldAddr fo_61_1 rfl) rfl rfl fun a E => ?_
  refine l_val E ok (y_load one_3 rfl (Holds.own 2 rfl rfl)) rfl rfl fun a E => ?_
  refine l_val E ok (y_move rfl) rfl rfl fun a E => ?_
  refine l_val E ok (y_slen Tryz.underlying9 rfl) rfl rfl fun a E => ?_
  refine l_val E ok (y_addw rfl rfl) rfl rfl fun a E => ?_
  refine l_val E ok (y_nilCheck rfl) rfl rfl fun a E => ?_
  refine l_val E ok (y_fieldAddr fo_61_1 rfl) rfl rfl fun a E => ?_
  refine l_storeB E ok 2 rfl rfl rfl inf_3 rfl rfl ⟨rfl, trivial⟩ rfl rfl fun w ok => ?_
  refine wpList_nil ?_
  refine t_norm ?_
  refine wp_seq ?_
  refine c_region ?_
  refine l_val E ok (y_move rfl) rfl rfl fun a E => ?_
  refine l_val E ok (y_assign rfl) rfl rfl fun a E => ?_
  refine wpList_nil ?_
  refine t_norm ?_
  refine wp_ret ?_
  have hret : condition_parser_number__95_R u m0 S pb0 pb1 pb2 x0 x1 x2 (r105.1, (Parser.mk o88.s (IntKind.wrap .i64 (o88.at_ + (r11.1.length : Int))) o88.relations o88.e)) a w := ⟨(ok.pk 3 [2, 0, 1] rfl (by decide)), E.d, ⟨rv_t E rfl, trivial⟩, r107, l100, (InR.wrap _ _), r102, r103⟩
  obtain rfl := Option.some.inj hF
  exact fin _ _ hret

def condition_parser_span_2_R (u : World) (m0 : Mem) (S : Segs) (pb0 : Nat) (pb1 : Nat) (x0 : Int) (x1 : Span) (r : Int) (a : Act) (w : World) : Prop :=
  Ok u m0 ([(pb0, Obj.cells [(Value.int .i64 x0)].toArray 3 (0, 0))] :: [(pb1, Obj.cells [(Value.int .i64 x1.From), (Value.int .i64 x1.To)].toArray 37 (0, 0))] :: S) w ∧ a.defers = [] ∧ RVs Tryz.prog a w [.t 4 (.int .i64 r)] ∧ InR .i64 r
set_option maxHeartbeats 4000000 in
set_option maxRecDepth 100000 in
theorem condition_parser_span_2_w {u : World} {m0 : Mem} {S : Segs} {w : World} (N : Nat) (n_0 : Int) (rn_0 : InR .i64 n_0) {pb0 : Nat} (x0 : Int) (r1 : InR .i64 x0) {pb1 : Nat} (x1 : Span) (r2 : InR .i64 x1.From) (r3 : InR .i64 x1.To) {r : Int} (hF : condition_parser_span_2 N n_0 x0 x1 = some r) (hG : Glob u) (ok : Ok u m0 ([(pb0, Obj.cells [(Value.int .i64 x0)].toArray 3 (0, 0))] :: [(pb1, Obj.cells [(Value.int .i64 x1.From), (Value.int .i64 x1.To)].toArray 37 (0, 0))] :: S) w) :
    Calls Tryz.prog 96 [Value.int .i64 n_0, Value.pointer (some ⟨pb0, 0, none⟩), Value.pointer (some ⟨pb1, 0, none⟩)].toArray w fun e w' => (e = .returned (.int .i64 r) ∧ Ok u m0 ([(pb0, Obj.cells [(Value.int .i64 x0)].toArray 3 (0, 0))] :: [(pb1, Obj.cells [(Value.int .i64 x1.From), (Value.int .i64 x1.To)].toArray 37 (0, 0))] :: S) w') ∧ InR .i64 r := by
  have hb0 := ok.base
  have le_m0 := Mem.le.refl m0
  unfold condition_parser_span_2 at hF
  have fin : ∀ a w, condition_parser_span_2_R u m0 S pb0 pb1 x0 x1 r a w → bodyPost Tryz.prog Tryz.f96 (fun e w' => (e = .returned (.int .i64 r) ∧ Ok u m0 ([(pb0, Obj.cells [(Value.int .i64 x0)].toArray 3 (0, 0))] :: [(pb1, Obj.cells [(Value.int .i64 x1.From), (Value.int .i64 x1.To)].toArray 37 (0, 0))] :: S) w') ∧ InR .i64 r) .ret a w := by
    intro a w h
    obtain ⟨ok, hd, hrv, h0⟩ := h
    exact c_ret2 [.t 4 (.int .i64 r)] hd rfl hrv ⟨⟨rfl, ok⟩, h0⟩
  refine enter Tryz.func96 rfl rfl rfl fun a E => ?_
  refine wp_seq ?_
  refine c_region ?_
  refine l_val E ok (y_assign rfl) rfl rfl fun a E => ?_
  refine wpList_nil ?_
  refine t_norm ?_
  refine wp_seq ?_
  refine wp_seq ?_
  refine c_region ?_
  refine l_val E ok (y_move rfl) rfl rfl fun a E => ?_
  refine l_val E ok (y_load one_3 rfl (Holds.own 0 rfl rfl)) rfl rfl fun a E => ?_
  obtain ⟨r4, e5, hF⟩ := bnd hF
  refine l_call E go_74 rfl (condition_greatest_w N x0 r1 e5 hG ok) rfl rfl ?_
  rintro _ w ⟨⟨rfl, ok⟩, r6⟩
  refine ⟨_, rfl, fun a E => ?_⟩
  refine l_val E ok (y_gtr rfl rfl) rfl rfl fun a E => ?_
  refine l_val E ok (y_move rfl) rfl rfl fun a E => ?_
  refine bsplit (decide (n_0 > r4)) (fun hc7 => ?_) (fun hc7 => ?_)
  · replace hF := cond_t hc7 hF
    replace E := E.upd 9 hc7 rfl
    refine l_skip E rfl rfl fun a E => ?_
    refine l_skip E rfl rfl fun a E => ?_
    refine l_skip E rfl rfl fun a E => ?_
    refine l_skip E rfl rfl fun a E => ?_
    refine l_val E ok (y_pickT rfl rfl) rfl rfl fun a E => ?_
    refine wpList_nil ?_
    refine t_norm ?_
    refine c_if E rfl (fun _ => ?_) (fun h => by cases h)
    refine wp_seq ?_
    refine c_region ?_
    refine l_val E ok (y_assign rfl) rfl rfl fun a E => ?_
    refine wpList_nil ?_
    refine t_norm ?_
    refine wp_ret ?_
    refine t_ret ?_
    have hret : condition_parser_span_2_R u m0 S pb0 pb1 x0 x1 2 a w := ⟨ok, E.d, ⟨rv_t E rfl, trivial⟩, (show InR .i64 (2) by decide)⟩
    obtain rfl := Option.some.inj hF
    exact fin _ _ hret
  replace hF := cond_f hc7 hF
  replace E := E.upd 9 hc7 rfl
  refine l_val E ok (y_move rfl) rfl rfl fun a E => ?_
  refine l_val E ok (y_fieldAddr fo_37_0 rfl) rfl rfl fun a E => ?_
  refine l_val E ok (y_load one_3 rfl (Holds.own 1 rfl rfl)) rfl rfl fun a E => ?_
  refine l_val E ok (y_lss rfl rfl) rfl rfl fun a E => ?_
  refine l_val E ok (y_pickF rfl rfl) rfl rfl fun a E => ?_
  refine wpList_nil ?_
  refine t_norm ?_
  refine c_if E rfl (fun hc8 => ?_) (fun hc8 => ?_)
  · replace hF := cond_t hc8 hF
    refine wp_seq ?_
    refine c_region ?_
    refine l_val E ok (y_assign rfl) rfl rfl fun a E => ?_
    refine wpList_nil ?_
    refine t_norm ?_
    refine wp_ret ?_
    refine t_ret ?_
    have hret : condition_parser_span_2_R u m0 S pb0 pb1 x0 x1 2 a w := ⟨ok, E.d, ⟨rv_t E rfl, trivial⟩, (show InR .i64 (2) by decide)⟩
    obtain rfl := Option.some.inj hF
    exact fin _ _ hret
  replace hF := cond_f hc8 hF
  refine wp_skip ?_
  refine t_norm ?_
  refine wp_seq ?_
  refine c_region ?_
  refine l_val E ok (y_assign rfl) rfl rfl fun a E => ?_
  refine wpList_nil ?_
  refine t_norm ?_
  refine wp_ret ?_
  have hret : condition_parser_span_2_R u m0 S pb0 pb1 x0 x1 0 a w := ⟨ok, E.d, ⟨rv_t E rfl, trivial⟩, (show InR .i64 (0) by decide)⟩
  obtain rfl := Option.some.inj hF
  exact fin _ _ hret

def condition_parser_number__96_R (u : World) (m0 : Mem) (S : Segs) (pb0 : Nat) (pb1 : Nat) (pb2 : Nat) (x0 : Parser) (x1 : Int) (x2 : Span) (r : Int × Parser) (a : Act) (w : World) : Prop :=
  Ok u m0 ([(pb0, Obj.cells [(Value.string (bs r.2.s)), (Value.int .i64 r.2.at_), (Value.int .i64 r.2.relations), (Value.int .i64 r.2.e)].toArray 61 (0, 0))] :: [(pb1, Obj.cells [(Value.int .i64 x1)].toArray 3 (0, 0))] :: [(pb2, Obj.cells [(Value.int .i64 x2.From), (Value.int .i64 x2.To)].toArray 37 (0, 0))] :: S) w ∧ a.defers = [] ∧ RVs Tryz.prog a w [.t 4 (.int .i64 r.1)] ∧ InR .i64 r.1 ∧ r.2.s.length ≤ LIMS ∧ InR .i64 r.2.at_ ∧ InR .i64 r.2.relations ∧ InR .i64 r.2.e
set_option maxHeartbeats 4000000 in
set_option maxRecDepth 100000 in
theorem condition_parser_number__96_w {u : World} {m0 : Mem} {S : Segs} {w : World} (N : Nat) {pb0 : Nat} (x0 : Parser) (l1 : x0.s.length ≤ LIMS) (r2 : InR .i64 x0.at_) (r3 : InR .i64 x0.relations) (r4 : InR .i64 x0.e) {pb1 : Nat} (x1 : Int) (r5 : InR .i64 x1) {pb2 : Nat} (x2 : Span) (r6 : InR .i64 x2.From) (r7 : InR .i64 x2.To) {r : Int × Parser} (hF : condition_parser_number__96 N x0 x1 x2 = some r) (hG : Glob u) (ok : Ok u m0 ([(pb0, Obj.cells [(Value.string (bs x0.s)), (Value.int .i64 x0.at_), (Value.int .i64 x0.relations), (Value.int .i64 x0.e)].toArray 61 (0, 0))] :: [(pb1, Obj.cells [(Value.int .i64 x1)].toArray 3 (0, 0))] :: [(pb2, Obj.cells [(Value.int .i64 x2.From), (Value.int .i64 x2.To)].toArray 37 (0, 0))] :: S) w) :
    Calls Tryz.prog 68 [Value.pointer (some ⟨pb0, 0, none⟩), Value.func (.func 96) #[] #[.pointer (some ⟨pb1, 0, none⟩), .pointer (some ⟨pb2, 0, none⟩)]].toArray w fun e w' => (e = .returned (.int .i64 r.1) ∧ Ok u m0 ([(pb0, Obj.cells [(Value.string (bs r.2.s)), (Value.int .i64 r.2.at_), (Value.int .i64 r.2.relations), (Value.int .i64 r.2.e)].toArray 61 (0, 0))] :: [(pb1, Obj.cells [(Value.int .i64 x1)].toArray 3 (0, 0))] :: [(pb2, Obj.cells [(Value.int .i64 x2.From), (Value.int .i64 x2.To)].toArray 37 (0, 0))] :: S) w') ∧ InR .i64 r.1 ∧ r.2.s.length ≤ LIMS ∧ InR .i64 r.2.at_ ∧ InR .i64 r.2.relations ∧ InR .i64 r.2.e := by
  have hb0 := ok.base
  have le_m0 := Mem.le.refl m0
  unfold condition_parser_number__96 at hF
  have fin : ∀ a w, condition_parser_number__96_R u m0 S pb0 pb1 pb2 x0 x1 x2 r a w → bodyPost Tryz.prog Tryz.f68 (fun e w' => (e = .returned (.int .i64 r.1) ∧ Ok u m0 ([(pb0, Obj.cells [(Value.string (bs r.2.s)), (Value.int .i64 r.2.at_), (Value.int .i64 r.2.relations), (Value.int .i64 r.2.e)].toArray 61 (0, 0))] :: [(pb1, Obj.cells [(Value.int .i64 x1)].toArray 3 (0, 0))] :: [(pb2, Obj.cells [(Value.int .i64 x2.From), (Value.int .i64 x2.To)].toArray 37 (0, 0))] :: S) w') ∧ InR .i64 r.1 ∧ r.2.s.length ≤ LIMS ∧ InR .i64 r.2.at_ ∧ InR .i64 r.2.relations ∧ InR .i64 r.2.e) .ret a w := by
    intro a w h
    obtain ⟨ok, hd, hrv, h0, h1, h2, h3, h4⟩ := h
    exact c_ret2 [.t 4 (.int .i64 r.1)] hd rfl hrv ⟨⟨rfl, ok⟩, h0, h1, h2, h3, h4⟩
  refine enter Tryz.func68 rfl rfl rfl fun a E => ?_
  refine wp_seq ?_
  refine c_region ?_
  refine l_val E ok (y_assign rfl) rfl rfl fun a E => ?_
  refine wpList_nil ?_
  refine t_norm ?_
  refine wp_seq ?_
  refine c_region ?_
  refine l_val E ok (y_move rfl) rfl rfl fun a E => ?_
  obtain ⟨r12, e13, hF⟩ := bnd hF
  refine l_call E go_65 rfl (condition_parser_peek_w N x0 l1 r2 r3 r4 e13 hG ok) rfl rfl ?_
  rintro _ w ⟨⟨rfl, ok⟩, l14, l15, r16, r17, r18⟩
  refine ⟨_, rfl, fun a E => ?_⟩
  refine l_val E ok (y_assign rfl) rfl rfl fun a E => ?_
  refine wpList_nil ?_
  refine t_norm ?_
  refine wp_seq ?_
  refine wp_seq ?_
  refine c_region ?_
  refine l_val E ok (y_move rfl) rfl rfl fun a E => ?_
  refine l_val E ok (y_seql rfl rfl) rfl rfl fun a E => ?_
  refine l_val E ok (y_move rfl) rfl rfl fun a E => ?_
  refine bsplit (r12.1 == ([])) (fun hc19 => ?_) (fun hc19 => ?_)
  · as_aux_lemma =>
      replace hF := cond_t hc19 hF
      replace E := E.upd 13 hc19 rfl
      refine l_skip E rfl rfl fun a E => ?_
      refine l_skip E rfl rfl fun a E => ?_
      refine l_skip E rfl rfl fun a E => ?_
      refine l_skip E rfl rfl fun a E => ?_
      refine l_val E ok (y_pickT rfl rfl) rfl rfl fun a E => ?_
      refine l_val E ok (y_move rfl) rfl rfl fun a E => ?_
      refine l_skip E rfl rfl fun a E => ?_
      refine l_skip E rfl rfl fun a E => ?_
      refine l_skip E rfl rfl fun a E => ?_
      refine l_val E ok (y_pickT rfl rfl) rfl rfl fun a E => ?_
      refine l_val E ok (y_move rfl) rfl rfl fun a E => ?_
      refine l_skip E rfl rfl fun a E => ?_
      refine l_skip E rfl rfl fun a E => ?_
      refine l_skip E rfl rfl fun a E => ?_
      refine l_skip E rfl rfl fun a E => ?_
      refine l_skip E rfl rfl fun a E => ?_
      refine l_skip E rfl rfl fun a E => ?_
      refine l_skip E rfl rfl fun a E => ?_
      refine l_skip E rfl rfl fun a E => ?_
      refine l_val E ok (y_pickT rfl rfl) rfl rfl fun a E => ?_
      refine wpList_nil ?_
      refine t_norm ?_
      refine c_if E rfl (fun _ => ?_) (fun h => by cases h)
      refine c_region ?_
      refine l_val E ok (y_move rfl) rfl rfl fun a E => ?_
      obtain ⟨r20, e21, hF⟩ := bnd hF
      refine l_call E go_40 rfl (condition_parser_fail_w N 3 (show InR .i64 (3) by decide) r12.2 l15 r16 r17 r18 e21 hG ok) rfl rfl ?_
      rintro _ w ⟨⟨rfl, ok⟩, l22, r23, r24, r25⟩
      refine ⟨_, rfl, fun a E => ?_⟩
      refine wpList_nil ?_
      refine t_norm ?_
      refine wp_seq ?_
      refine wp_seq ?_
      refine c_region ?_
      refine l_val E ok (y_move rfl) rfl rfl fun a E => ?_
      refine l_val E ok (y_nilCheck rfl) rfl rfl fun a E => ?_
      refine l_val E ok (y_fieldAddr fo_61_3 rfl) rfl rfl fun a E => ?_
      refine l_val E ok (y_load one_26 rfl (Holds.own 0 rfl rfl)) rfl rfl fun a E => ?_
      refine l_val E ok (y_neq rfl rfl) rfl rfl fun a E => ?_
      refine wpList_nil ?_
      refine t_norm ?_
      refine c_if E rfl (fun hc26 => ?_) (fun hc26 => ?_)
      · replace hF := cond_t hc26 hF
        refine wp_seq ?_
        refine c_region ?_
        refine l_val E ok (y_assign rfl) rfl rfl fun a E => ?_
        refine wpList_nil ?_
        refine t_norm ?_
        refine wp_ret ?_
        refine t_ret ?_
        have hret : condition_parser_number__96_R u m0 S pb0 pb1 pb2 x0 x1 x2 (0, r20) a w := ⟨ok, E.d, ⟨rv_t E rfl, trivial⟩, (show InR .i64 (0) by decide), l22, r23, r24, r25⟩
        obtain rfl := Option.some.inj hF
        exact fin _ _ hret
      replace hF := cond_f hc26 hF
      refine wp_skip ?_
      refine t_norm ?_
      refine wp_seq ?_
      refine c_region ?_
      refine l_val E ok (y_move rfl) rfl rfl fun a E => ?_
      obtain ⟨r27, e28, hF⟩ := bnd hF
      refine l_call E go_93 rfl (strconv_Atoi_w N r12.1 l14 e28 hG ok) rfl rfl ?_
      rintro _ w ⟨⟨rfl, ok⟩, r29⟩
      refine ⟨_, rfl, fun a E => ?_⟩
      refine l_val E ok (y_move rfl) rfl rfl fun a E => ?_
      refine l_val E ok (y_extract rfl rfl) rfl rfl fun a E => ?_
      refine l_val E ok (y_extract rfl rfl) rfl rfl fun a E => ?_
      refine l_val E ok (y_assign rfl) rfl rfl fun a E => ?_
      refine l_val E ok (y_assign rfl) rfl rfl fun a E => ?_
      refine wpList_nil ?_
      refine t_norm ?_
      refine wp_seq ?_
      refine wp_seq ?_
      refine c_region ?_
      refine l_val E ok (y_move rfl) rfl rfl fun a E => ?_
      refine l_val E ok (y_move rfl) rfl rfl fun a E => ?_
      obtain ⟨r30, e31, hF⟩ := bnd hF
      replace ok : Ok u m0 ([(pb1, Obj.cells [(Value.int .i64 x1)].toArray 3 (0, 0))] :: [(pb2, Obj.cells [(Value.int .i64 x2.From), (Value.int .i64 x2.To)].toArray 37 (0, 0))] :: [(pb0, Obj.cells [(Value.string (bs r20.s)), (Value.int .i64 r20.at_), (Value.int .i64 r20.relations), (Value.int .i64 r20.e)].toArray 61 (0, 0))] :: S) w := (ok.pk 3 [1, 2, 0] rfl (by decide))
      refine l_callc E rfl go_96 rfl (condition_parser_span_2_w N r27.1 r29 x1 r5 x2 r6 r7 e31 hG ok) rfl rfl ?_
      rintro _ w ⟨⟨rfl, ok⟩, r32⟩
      refine ⟨_, rfl, fun a E => ?_⟩
      refine l_val E ok (y_assign rfl) rfl rfl fun a E => ?_
      refine wpList_nil ?_
      refine t_norm ?_
      refine wp_seq ?_
      refine c_region ?_
      refine l_val E ok (y_move rfl) rfl rfl fun a E => ?_
      refine l_val E ok (y_neq rfl rfl) rfl rfl fun a E => ?_
      refine wpList_nil ?_
      refine t_norm ?_
      refine c_if E rfl (fun hc33 => ?_) (fun hc33 => ?_)
      · replace hF := cond_t hc33 hF
        refine wp_seq ?_
        refine c_region ?_
        refine l_val E ok (y_move rfl) rfl rfl fun a E => ?_
        refine l_val E ok (y_move rfl) rfl rfl fun a E => ?_
        obtain ⟨r34, e35, hF⟩ := bnd hF
        replace ok : Ok u m0 ([(pb0, Obj.cells [(Value.string (bs r20.s)), (Value.int .i64 r20.at_), (Value.int .i64 r20.relations), (Value.int .i64 r20.e)].toArray 61 (0, 0))] :: [(pb1, Obj.cells [(Value.int .i64 x1)].toArray 3 (0, 0))] :: [(pb2, Obj.cells [(Value.int .i64 x2.From), (Value.int .i64 x2.To)].toArray 37 (0, 0))] :: S) w := (ok.pk 3 [2, 0, 1] rfl (by decide))
        refine l_call E go_40 rfl (condition_parser_fail_w N r30 r32 r20 l22 r23 r24 r25 e35 hG ok) rfl rfl ?_
        rintro _ w ⟨⟨rfl, ok⟩, l36, r37, r38, r39⟩
        refine ⟨_, rfl, fun a E => ?_⟩
        refine wpList_nil ?_
        refine t_norm ?_
        refine wp_seq ?_
        refine c_region ?_
        refine l_val E ok (y_assign rfl) rfl rfl fun a E => ?_
        refine wpList_nil ?_
        refine t_norm ?_
        refine wp_ret ?_
        refine t_ret ?_
        have hret : condition_parser_number__96_R u m0 S pb0 pb1 pb2 x0 x1 x2 (0, r34) a w := ⟨ok, E.d, ⟨rv_t E rfl, trivial⟩, (show InR .i64 (0) by decide), l36, r37, r38, r39⟩
        obtain rfl := Option.some.inj hF
        exact fin _ _ hret
      replace hF := cond_f hc33 hF
      refine wp_skip ?_
      refine t_norm ?_
      refine wp_seq ?_
      refine c_region ?_
      refine l_val E ok (y_move rfl) rfl rfl fun a E => ?_
      refine l_val E ok (y_nilCheck rfl) rfl rfl fun a E => ?_
      refine l_val E ok (y_fieldAddr fo_61_1 rfl) rfl rfl fun a E => ?_
      refine l_val E ok (y_load one_3 rfl (Holds.own 2 rfl rfl)) rfl rfl fun a E => ?_
      refine l_val E ok (y_move rfl) rfl rfl fun a E => ?_
      refine l_val E ok (y_slen Tryz.underlying9 rfl) rfl rfl fun a E => ?_
      refine l_val E ok (y_addw rfl rfl) rfl rfl fun a E => ?_
      refine l_val E ok (y_nilCheck rfl) rfl rfl fun a E => ?_
      refine l_val E ok (y_fieldAddr fo_61_1 rfl) rfl rfl fun a E => ?_
      refine l_storeB E ok 2 rfl rfl rfl inf_3 rfl rfl ⟨rfl, trivial⟩ rfl rfl fun w ok => ?_
      refine wpList_nil ?_
      refine t_norm ?_
      refine wp_seq ?_
      refine c_region ?_
      refine l_val E ok (y_move rfl) rfl rfl fun a E => ?_
      refine l_val E ok (y_assign rfl) rfl rfl fun a E => ?_
      refine wpList_nil ?_
      refine t_norm ?_
      refine wp_ret ?_
      have hret : condition_parser_number__96_R u m0 S pb0 pb1 pb2 x0 x1 x2 (r27.1, (Parser.mk r20.s (IntKind.wrap .i64 (r20.at_ + (r12.1.length : Int))) r20.relations r20.e)) a w := ⟨(ok.pk 3 [2, 0, 1] rfl (by decide)), E.d, ⟨rv_t E rfl, trivial⟩, r29, l22, (InR.wrap _ _), r24, r25⟩
      obtain rfl := Option.some.inj hF
      exact fin _ _ hret
  replace hF := cond_f hc19 hF
  replace E := E.upd 13 hc19 rfl
  refine l_val E ok (y_move rfl) rfl rfl fun a E => ?_
  obtain ⟨c40, e41, hF⟩ := bnd hF
  refine l_val E ok (y_index Tryz.underlying9 rfl rfl e41) rfl rfl fun a E => ?_
  obtain ⟨r42, e43, hF⟩ := bnd hF
  refine l_call E go_89 rfl (condition_digit_w N (c40.toNat : Int) (InR.byte c40) e43 hG ok) rfl rfl ?_
  rintro _ w ⟨rfl, ok⟩
  refine ⟨_, rfl, fun a E => ?_⟩
  refine l_val E ok (y_not rfl) rfl rfl fun a E => ?_
  refine l_val E ok (y_pickF rfl rfl) rfl rfl fun a E => ?_
  refine l_val E ok (y_move rfl) rfl rfl fun a E => ?_
  refine bsplit (!r42) (fun hc44 => ?_) (fun hc44 => ?_)
  · as_aux_lemma =>
      replace hF := cond_t hc44 hF
      replace E := E.upd 19 hc44 rfl
      refine l_skip E rfl rfl fun a E => ?_
      refine l_skip E rfl rfl fun a E => ?_
      refine l_skip E rfl rfl fun a E => ?_
      refine l_val E ok (y_pickT rfl rfl) rfl rfl fun a E => ?_
      refine l_val E ok (y_move rfl) rfl rfl fun a E => ?_
      refine l_skip E rfl rfl fun a E => ?_
      refine l_skip E rfl rfl fun a E => ?_
      refine l_skip E rfl rfl fun a E => ?_
      refine l_skip E rfl rfl fun a E => ?_
      refine l_skip E rfl rfl fun a E => ?_
      refine l_skip E rfl rfl fun a E => ?_
      refine l_skip E rfl rfl fun a E => ?_
      refine l_skip E rfl rfl fun a E => ?_
      refine l_val E ok (y_pickT rfl rfl) rfl rfl fun a E => ?_
      refine wpList_nil ?_
      refine t_norm ?_
      refine c_if E rfl (fun _ => ?_) (fun h => by cases h)
      refine c_region ?_
      refine l_val E ok (y_move rfl) rfl rfl fun a E => ?_
      obtain ⟨r45, e46, hF⟩ := bnd hF
      refine l_call E go_40 rfl (condition_parser_fail_w N 3 (show InR .i64 (3) by decide) r12.2 l15 r16 r17 r18 e46 hG ok) rfl rfl ?_
      rintro _ w ⟨⟨rfl, ok⟩, l47, r48, r49, r50⟩
      refine ⟨_, rfl, fun a E => ?_⟩
      refine wpList_nil ?_
      refine t_norm ?_
      refine wp_seq ?_
      refine wp_seq ?_
      refine c_region ?_
      refine l_val E ok (y_move rfl) rfl rfl fun a E => ?_
      refine l_val E ok (y_nilCheck rfl) rfl rfl fun a E => ?_
      refine l_val E ok (y_fieldAddr fo_61_3 rfl) rfl rfl fun a E => ?_
      refine l_val E ok (y_load one_26 rfl (Holds.own 0 rfl rfl)) rfl rfl fun a E => ?_
      refine l_val E ok (y_neq rfl rfl) rfl rfl fun a E => ?_
      refine wpList_nil ?_
      refine t_norm ?_
      refine c_if E rfl (fun hc51 => ?_) (fun hc51 => ?_)
      · replace hF := cond_t hc51 hF
        refine wp_seq ?_
        refine c_region ?_
        refine l_val E ok (y_assign rfl) rfl rfl fun a E => ?_
        refine wpList_nil ?_
        refine t_norm ?_
        refine wp_ret ?_
        refine t_ret ?_
        have hret : condition_parser_number__96_R u m0 S pb0 pb1 pb2 x0 x1 x2 (0, r45) a w := ⟨ok, E.d, ⟨rv_t E rfl, trivial⟩, (show InR .i64 (0) by decide), l47, r48, r49, r50⟩
        obtain rfl := Option.some.inj hF
        exact fin _ _ hret
      replace hF := cond_f hc51 hF
      refine wp_skip ?_
      refine t_norm ?_
      refine wp_seq ?_
      refine c_region ?_
      refine l_val E ok (y_move rfl) rfl rfl fun a E => ?_
      obtain ⟨r52, e53, hF⟩ := bnd hF
      refine l_call E go_93 rfl (strconv_Atoi_w N r12.1 l14 e53 hG ok) rfl rfl ?_
      rintro _ w ⟨⟨rfl, ok⟩, r54⟩
      refine ⟨_, rfl, fun a E => ?_⟩
      refine l_val E ok (y_move rfl) rfl rfl fun a E => ?_
      refine l_val E ok (y_extract rfl rfl) rfl rfl fun a E => ?_
      refine l_val E ok (y_extract rfl rfl) rfl rfl fun a E => ?_
      refine l_val E ok (y_assign rfl) rfl rfl fun a E => ?_
      refine l_val E ok (y_assign rfl) rfl rfl fun a E => ?_
      refine wpList_nil ?_
      refine t_norm ?_
      refine wp_seq ?_
      refine wp_seq ?_
      refine c_region ?_
      refine l_val E ok (y_move rfl) rfl rfl fun a E => ?_
      refine l_val E ok (y_move rfl) rfl rfl fun a E => ?_
      obtain ⟨r55, e56, hF⟩ := bnd hF
      replace ok : Ok u m0 ([(pb1, Obj.cells [(Value.int .i64 x1)].toArray 3 (0, 0))] :: [(pb2, Obj.cells [(Value.int .i64 x2.From), (Value.int .i64 x2.To)].toArray 37 (0, 0))] :: [(pb0, Obj.cells [(Value.string (bs r45.s)), (Value.int .i64 r45.at_), (Value.int .i64 r45.relations), (Value.int .i64 r45.e)].toArray 61 (0, 0))] :: S) w := (ok.pk 3 [1, 2, 0] rfl (by decide))
      refine l_callc E rfl go_96 rfl (condition_parser_span_2_w N r52.1 r54 x1 r5 x2 r6 r7 e56 hG ok) rfl rfl ?_
      rintro _ w ⟨⟨rfl, ok⟩, r57⟩
      refine ⟨_, rfl, fun a E => ?_⟩
      refine l_val E ok (y_assign rfl) rfl rfl fun a E => ?_
      refine wpList_nil ?_
      refine t_norm ?_
      refine wp_seq ?_
      refine c_region ?_
      refine l_val E ok (y_move rfl) rfl rfl fun a E => ?_
      refine l_val E ok (y_neq rfl rfl) rfl rfl fun a E => ?_
      refine wpList_nil ?_
      refine t_norm ?_
      refine c_if E rfl (fun hc58 => ?_) (fun hc58 => ?_)
      · replace hF := cond_t hc58 hF
        refine wp_seq ?_
        refine c_region ?_
        refine l_val E ok (y_move rfl) rfl rfl fun a E => ?_
        refine l_val E ok (y_move rfl) rfl rfl fun a E => ?_
        obtain ⟨r59, e60, hF⟩ := bnd hF
        replace ok : Ok u m0 ([(pb0, Obj.cells [(Value.string (bs r45.s)), (Value.int .i64 r45.at_), (Value.int .i64 r45.relations), (Value.int .i64 r45.e)].toArray 61 (0, 0))] :: [(pb1, Obj.cells [(Value.int .i64 x1)].toArray 3 (0, 0))] :: [(pb2, Obj.cells [(Value.int .i64 x2.From), (Value.int .i64 x2.To)].toArray 37 (0, 0))] :: S) w := (ok.pk 3 [2, 0, 1] rfl (by decide))
        refine l_call E go_40 rfl (condition_parser_fail_w N r55 r57 r45 l47 r48 r49 r50 e60 hG ok) rfl rfl ?_
        rintro _ w ⟨⟨rfl, ok⟩, l61, r62, r63, r64⟩
        refine ⟨_, rfl, fun a E => ?_⟩
        refine wpList_nil ?_
        refine t_norm ?_
        refine wp_seq ?_
        refine c_region ?_
        refine l_val E ok (y_assign rfl) rfl rfl fun a E => ?_
        refine wpList_nil ?_
        refine t_norm ?_
        refine wp_ret ?_
        refine t_ret ?_
        have hret : condition_parser_number__96_R u m0 S pb0 pb1 pb2 x0 x1 x2 (0, r59) a w := ⟨ok, E.d, ⟨rv_t E rfl, trivial⟩, (show InR .i64 (0) by decide), l61, r62, r63, r64⟩
        obtain rfl := Option.some.inj hF
        exact fin _ _ hret
      replace hF := cond_f hc58 hF
      refine wp_skip ?_
      refine t_norm ?_
      refine wp_seq ?_
      refine c_region ?_
      refine l_val E ok (y_move rfl) rfl rfl fun a E => ?_
      refine l_val E ok (y_nilCheck rfl) rfl rfl fun a E => ?_
      refine l_val E ok (y_fieldAddr fo_61_1 rfl) rfl rfl fun a E => ?_
      refine l_val E ok (y_load one_3 rfl (Holds.own 2 rfl rfl)) rfl rfl fun a E => ?_
      refine l_val E ok (y_move rfl) rfl rfl fun a E => ?_
      refine l_val E ok (y_slen Tryz.underlying9 rfl) rfl rfl fun a E => ?_
      refine l_val E ok (y_addw rfl rfl) rfl rfl fun a E => ?_
      refine l_val E ok (y_nilCheck rfl) rfl rfl fun a E => ?_
      refine l_val E ok (y_fieldAddr fo_61_1 rfl) rfl rfl fun a E => ?_
      refine l_storeB E ok 2 rfl rfl rfl inf_3 rfl rfl ⟨rfl, trivial⟩ rfl rfl fun w ok => ?_
      refine wpList_nil ?_
      refine t_norm ?_
      refine wp_seq ?_
      refine c_region ?_
      refine l_val E ok (y_move rfl) rfl rfl fun a E => ?_
      refine l_val E ok (y_assign rfl) rfl rfl fun a E => ?_
      refine wpList_nil ?_
      refine t_norm ?_
      refine wp_ret ?_
      have hret : condition_parser_number__96_R u m0 S pb0 pb1 pb2 x0 x1 x2 (r52.1, (Parser.mk r45.s (IntKind.wrap .i64 (r45.at_ + (r12.1.length : Int))) r45.relations r45.e)) a w := ⟨(ok.pk 3 [2, 0, 1] rfl (by decide)), E.d, ⟨rv_t E rfl, trivial⟩, r54, l47, (InR.wrap _ _), r49, r50⟩
      obtain rfl := Option.some.inj hF
      exact fin _ _ hret
  replace hF := cond_f hc44 hF
  replace E := E.upd 19 hc44 rfl
  refine l_val E ok (y_move rfl) rfl rfl fun a E => ?_
  refine l_val E ok (y_slen Tryz.underlying9 rfl) rfl rfl fun a E => ?_
  refine l_val E ok (y_gtr rfl rfl) rfl rfl fun a E => ?_
  refine l_val E ok (y_pickF rfl rfl) rfl rfl fun a E => ?_
  refine l_val E ok (y_move rfl) rfl rfl fun a E => ?_
  refine bsplit (decide ((r12.1.length : Int) > 3)) (fun hc65 => ?_) (fun hc65 => ?_)
  · as_aux_lemma =>
      replace hF := cond_t hc65 hF
      replace E := E.upd 24 hc65 rfl
      refine l_skip E rfl rfl fun a E => ?_
      refine l_skip E rfl rfl fun a E => ?_
      refine l_skip E rfl rfl fun a E => ?_
      refine l_skip E rfl rfl fun a E => ?_
      refine l_skip E rfl rfl fun a E => ?_
      refine l_skip E rfl rfl fun a E => ?_
      refine l_skip E rfl rfl fun a E => ?_
      refine l_skip E rfl rfl fun a E => ?_
      refine l_val E ok (y_pickT rfl rfl) rfl rfl fun a E => ?_
      refine wpList_nil ?_
      refine t_norm ?_
      refine c_if E rfl (fun _ => ?_) (fun h => by cases h)
      refine c_region ?_
      refine l_val E ok (y_move rfl) rfl rfl fun a E => ?_
      obtain ⟨r66, e67, hF⟩ := bnd hF
      refine l_call E go_40 rfl (condition_parser_fail_w N 3 (show InR .i64 (3) by decide) r12.2 l15 r16 r17 r18 e67 hG ok) rfl rfl ?_
      rintro _ w ⟨⟨rfl, ok⟩, l68, r69, r70, r71⟩
      refine ⟨_, rfl, fun a E => ?_⟩
      refine wpList_nil ?_
      refine t_norm ?_
      refine wp_seq ?_
      refine wp_seq ?_
      refine c_region ?_
      refine l_val E ok (y_move rfl) rfl rfl fun a E => ?_
      refine l_val E ok (y_nilCheck rfl) rfl rfl fun a E => ?_
      refine l_val E ok (y_fieldAddr fo_61_3 rfl) rfl rfl fun a E => ?_
      refine l_val E ok (y_load one_26 rfl (Holds.own 0 rfl rfl)) rfl rfl fun a E => ?_
      refine l_val E ok (y_neq rfl rfl) rfl rfl fun a E => ?_
      refine wpList_nil ?_
      refine t_norm ?_
      refine c_if E rfl (fun hc72 => ?_) (fun hc72 => ?_)
      · replace hF := cond_t hc72 hF
        refine wp_seq ?_
        refine c_region ?_
        refine l_val E ok (y_assign rfl) rfl rfl fun a E => ?_
        refine wpList_nil ?_
        refine t_norm ?_
        refine wp_ret ?_
        refine t_ret ?_
        have hret : condition_parser_number__96_R u m0 S pb0 pb1 pb2 x0 x1 x2 (0, r66) a w := ⟨ok, E.d, ⟨rv_t E rfl, trivial⟩, (show InR .i64 (0) by decide), l68, r69, r70, r71⟩
        obtain rfl := Option.some.inj hF
        exact fin _ _ hret
      replace hF := cond_f hc72 hF
      refine wp_skip ?_
      refine t_norm ?_
      refine wp_seq ?_
      refine c_region ?_
      refine l_val E ok (y_move rfl) rfl rfl fun a E => ?_
      obtain ⟨r73, e74, hF⟩ := bnd hF
      refine l_call E go_93 rfl (strconv_Atoi_w N r12.1 l14 e74 hG ok) rfl rfl ?_
      rintro _ w ⟨⟨rfl, ok⟩, r75⟩
      refine ⟨_, rfl, fun a E => ?_⟩
      refine l_val E ok (y_move rfl) rfl rfl fun a E => ?_
      refine l_val E ok (y_extract rfl rfl) rfl rfl fun a E => ?_
      refine l_val E ok (y_extract rfl rfl) rfl rfl fun a E => ?_
      refine l_val E ok (y_assign rfl) rfl rfl fun a E => ?_
      refine l_val E ok (y_assign rfl) rfl rfl fun a E => ?_
      refine wpList_nil ?_
      refine t_norm ?_
      refine wp_seq ?_
      refine wp_seq ?_
      refine c_region ?_
      refine l_val E ok (y_move rfl) rfl rfl fun a E => ?_
      refine l_val E ok (y_move rfl) rfl rfl fun a E => ?_
      obtain ⟨r76, e77, hF⟩ := bnd hF
      replace ok : Ok u m0 ([(pb1, Obj.cells [(Value.int .i64 x1)].toArray 3 (0, 0))] :: [(pb2, Obj.cells [(Value.int .i64 x2.From), (Value.int .i64 x2.To)].toArray 37 (0, 0))] :: [(pb0, Obj.cells [(Value.string (bs r66.s)), (Value.int .i64 r66.at_), (Value.int .i64 r66.relations), (Value.int .i64 r66.e)].toArray 61 (0, 0))] :: S) w := (ok.pk 3 [1, 2, 0] rfl (by decide))
      refine l_callc E rfl go_96 rfl (condition_parser_span_2_w N r73.1 r75 x1 r5 x2 r6 r7 e77 hG ok) rfl rfl ?_
      rintro _ w ⟨⟨rfl, ok⟩, r78⟩
      refine ⟨_, rfl, fun a E => ?_⟩
      refine l_val E ok (y_assign rfl) rfl rfl fun a E => ?_
      refine wpList_nil ?_
      refine t_norm ?_
      refine wp_seq ?_
      refine c_region ?_
      refine l_val E ok (y_move rfl) rfl rfl fun a E => ?_
      refine l_val E ok (y_neq rfl rfl) rfl rfl fun a E => ?_
      refine wpList_nil ?_
      refine t_norm ?_
      refine c_if E rfl (fun hc79 => ?_) (fun hc79 => ?_)
      · replace hF := cond_t hc79 hF
        refine wp_seq ?_
        refine c_region ?_
        refine l_val E ok (y_move rfl) rfl rfl fun a E => ?_
        refine l_val E ok (y_move rfl) rfl rfl fun a E => ?_
        obtain ⟨r80, e81, hF⟩ := bnd hF
        replace ok : Ok u m0 ([(pb0, Obj.cells [(Value.string (bs r66.s)), (Value.int .i64 r66.at_), (Value.int .i64 r66.relations), (Value.int .i64 r66.e)].toArray 61 (0, 0))] :: [(pb1, Obj.cells [(Value.int .i64 x1)].toArray 3 (0, 0))] :: [(pb2, Obj.cells [(Value.int .i64 x2.From), (Value.int .i64 x2.To)].toArray 37 (0, 0))] :: S) w := (ok.pk 3 [2, 0, 1] rfl (by decide))
        refine l_call E go_40 rfl (condition_parser_fail_w N r76 r78 r66 l68 r69 r70 r71 e81 hG ok) rfl rfl ?_
        rintro _ w ⟨⟨rfl, ok⟩, l82, r83, r84, r85⟩
        refine ⟨_, rfl, fun a E => ?_⟩
        refine wpList_nil ?_
        refine t_norm ?_
        refine wp_seq ?_
        refine c_region ?_
        refine l_val E ok (y_assign rfl) rfl rfl fun a E => ?_
        refine wpList_nil ?_
        refine t_norm ?_
        refine wp_ret ?_
        refine t_ret ?_
        have hret : condition_parser_number__96_R u m0 S pb0 pb1 pb2 x0 x1 x2 (0, r80) a w := ⟨ok, E.d, ⟨rv_t E rfl, trivial⟩, (show InR .i64 (0) by decide), l82, r83, r84, r85⟩
        obtain rfl := Option.some.inj hF
        exact fin _ _ hret
      replace hF := cond_f hc79 hF
      refine wp_skip ?_
      refine t_norm ?_
      refine wp_seq ?_
      refine c_region ?_
      refine l_val E ok (y_move rfl) rfl rfl fun a E => ?_
      refine l_val E ok (y_nilCheck rfl) rfl rfl fun a E => ?_
      refine l_val E ok (y_fieldAddr fo_61_1 rfl) rfl rfl fun a E => ?_
      refine l_val E ok (y_load one_3 rfl (Holds.own 2 rfl rfl)) rfl rfl fun a E => ?_
      refine l_val E ok (y_move rfl) rfl rfl fun a E => ?_
      refine l_val E ok (y_slen Tryz.underlying9 rfl) rfl rfl fun a E => ?_
      refine l_val E ok (y_addw rfl rfl) rfl rfl fun a E => ?_
      refine l_val E ok (y_nilCheck rfl) rfl rfl fun a E => ?_
      refine l_val E ok (y_fieldAddr fo_61_1 rfl) rfl rfl fun a E => ?_
      refine l_storeB E ok 2 rfl rfl rfl inf_3 rfl rfl ⟨rfl, trivial⟩ rfl rfl fun w ok => ?_
      refine wpList_nil ?_
      refine t_norm ?_
      refine wp_seq ?_
      refine c_region ?_
      refine l_val E ok (y_move rfl) rfl rfl fun a E => ?_
      refine l_val E ok (y_assign rfl) rfl rfl fun a E => ?_
      refine wpList_nil ?_
      refine t_norm ?_
      refine wp_ret ?_
      have hret : condition_parser_number__96_R u m0 S pb0 pb1 pb2 x0 x1 x2 (r73.1, (Parser.mk r66.s (IntKind.wrap .i64 (r66.at_ + (r12.1.length : Int))) r66.relations r66.e)) a w := ⟨(ok.pk 3 [2, 0, 1] rfl (by decide)), E.d, ⟨rv_t E rfl, trivial⟩, r75, l68, (InR.wrap _ _), r70, r71⟩
      obtain rfl := Option.some.inj hF
      exact fin _ _ hret
  replace hF := cond_f hc65 hF
  replace E := E.upd 24 hc65 rfl
  refine l_val E ok (y_move rfl) rfl rfl fun a E => ?_
  refine l_val E ok (y_slen Tryz.underlying9 rfl) rfl rfl fun a E => ?_
  refine l_val E ok (y_gtr rfl rfl) rfl rfl fun a E => ?_
  refine l_val E ok (y_move rfl) rfl rfl fun a E => ?_
  refine bsplit (decide ((r12.1.length : Int) > 1)) (fun hc86 => ?_) (fun hc86 => ?_)
  rotate_left
  · as_aux_lemma =>
      replace hF := cond_f hc86 hF
      replace E := E.upd 28 hc86 rfl
      refine l_skip E rfl rfl fun a E => ?_
      refine l_skip E rfl rfl fun a E => ?_
      refine l_skip E rfl rfl fun a E => ?_
      refine l_val E ok (y_pickF rfl rfl) rfl rfl fun a E => ?_
      refine l_val E ok (y_pickF rfl rfl) rfl rfl fun a E => ?_
      refine wpList_nil ?_
      refine t_norm ?_
      refine c_if E rfl (fun h => by cases h) (fun _ => ?_)
      refine wp_skip ?_
      refine t_norm ?_
      refine wp_seq ?_
      refine wp_seq ?_
      refine c_region ?_
      refine l_val E ok (y_move rfl) rfl rfl fun a E => ?_
      refine l_val E ok (y_nilCheck rfl) rfl rfl fun a E => ?_
      refine l_val E ok (y_fieldAddr fo_61_3 rfl) rfl rfl fun a E => ?_
      refine l_val E ok (y_load one_26 rfl (Holds.own 0 rfl rfl)) rfl rfl fun a E => ?_
      refine l_val E ok (y_neq rfl rfl) rfl rfl fun a E => ?_
      refine wpList_nil ?_
      refine t_norm ?_
      refine c_if E rfl (fun hc119 => ?_) (fun hc119 => ?_)
      · replace hF := cond_t hc119 hF
        refine wp_seq ?_
        refine c_region ?_
        refine l_val E ok (y_assign rfl) rfl rfl fun a E => ?_
        refine wpList_nil ?_
        refine t_norm ?_
        refine wp_ret ?_
        refine t_ret ?_
        have hret : condition_parser_number__96_R u m0 S pb0 pb1 pb2 x0 x1 x2 (0, r12.2) a w := ⟨ok, E.d, ⟨rv_t E rfl, trivial⟩, (show InR .i64 (0) by decide), l15, r16, r17, r18⟩
        obtain rfl := Option.some.inj hF
        exact fin _ _ hret
      replace hF := cond_f hc119 hF
      refine wp_skip ?_
      refine t_norm ?_
      refine wp_seq ?_
      refine c_region ?_
      refine l_val E ok (y_move rfl) rfl rfl fun a E => ?_
      obtain ⟨r120, e121, hF⟩ := bnd hF
      refine l_call E go_93 rfl (strconv_Atoi_w N r12.1 l14 e121 hG ok) rfl rfl ?_
      rintro _ w ⟨⟨rfl, ok⟩, r122⟩
      refine ⟨_, rfl, fun a E => ?_⟩
      refine l_val E ok (y_move rfl) rfl rfl fun a E => ?_
      refine l_val E ok (y_extract rfl rfl) rfl rfl fun a E => ?_
      refine l_val E ok (y_extract rfl rfl) rfl rfl fun a E => ?_
      refine l_val E ok (y_assign rfl) rfl rfl fun a E => ?_
      refine l_val E ok (y_assign rfl) rfl rfl fun a E => ?_
      refine wpList_nil ?_
      refine t_norm ?_
      refine wp_seq ?_
      refine wp_seq ?_
      refine c_region ?_
      refine l_val E ok (y_move rfl) rfl rfl fun a E => ?_
      refine l_val E ok (y_move rfl) rfl rfl fun a E => ?_
      obtain ⟨r123, e124, hF⟩ := bnd hF
      replace ok : Ok u m0 ([(pb1, Obj.cells [(Value.int .i64 x1)].toArray 3 (0, 0))] :: [(pb2, Obj.cells [(Value.int .i64 x2.From), (Value.int .i64 x2.To)].toArray 37 (0, 0))] :: [(pb0, Obj.cells [(Value.string (bs r12.2.s)), (Value.int .i64 r12.2.at_), (Value.int .i64 r12.2.relations), (Value.int .i64 r12.2.e)].toArray 61 (0, 0))] :: S) w := (ok.pk 3 [1, 2, 0] rfl (by decide))
      refine l_callc E rfl go_96 rfl (condition_parser_span_2_w N r120.1 r122 x1 r5 x2 r6 r7 e124 hG ok) rfl rfl ?_
      rintro _ w ⟨⟨rfl, ok⟩, r125⟩
      refine ⟨_, rfl, fun a E => ?_⟩
      refine l_val E ok (y_assign rfl) rfl rfl fun a E => ?_
      refine wpList_nil ?_
      refine t_norm ?_
      refine wp_seq ?_
      refine c_region ?_
      refine l_val E ok (y_move rfl) rfl rfl fun a E => ?_
      refine l_val E ok (y_neq rfl rfl) rfl rfl fun a E => ?_
      refine wpList_nil ?_
      refine t_norm ?_
      refine c_if E rfl (fun hc126 => ?_) (fun hc126 => ?_)
      · replace hF := cond_t hc126 hF
        refine wp_seq ?_
        refine c_region ?_
        refine l_val E ok (y_move rfl) rfl rfl fun a E => ?_
        refine l_val E ok (y_move rfl) rfl rfl fun a E => ?_
        obtain ⟨r127, e128, hF⟩ := bnd hF
        replace ok : Ok u m0 ([(pb0, Obj.cells [(Value.string (bs r12.2.s)), (Value.int .i64 r12.2.at_), (Value.int .i64 r12.2.relations), (Value.int .i64 r12.2.e)].toArray 61 (0, 0))] :: [(pb1, Obj.cells [(Value.int .i64 x1)].toArray 3 (0, 0))] :: [(pb2, Obj.cells [(Value.int .i64 x2.From), (Value.int .i64 x2.To)].toArray 37 (0, 0))] :: S) w := (ok.pk 3 [2, 0, 1] rfl (by decide))
        refine l_call E go_40 rfl (condition_parser_fail_w N r123 r125 r12.2 l15 r16 r17 r18 e128 hG ok) rfl rfl ?_
        rintro _ w ⟨⟨rfl, ok⟩, l129, r130, r131, r132⟩
        refine ⟨_, rfl, fun a E => ?_⟩
        refine wpList_nil ?_
        refine t_norm ?_
        refine wp_seq ?_
        refine c_region ?_
        refine l_val E ok (y_assign rfl) rfl rfl fun a E => ?_
        refine wpList_nil ?_
        refine t_norm ?_
        refine wp_ret ?_
        refine t_ret ?_
        have hret : condition_parser_number__96_R u m0 S pb0 pb1 pb2 x0 x1 x2 (0, r127) a w := ⟨ok, E.d, ⟨rv_t E rfl, trivial⟩, (show InR .i64 (0) by decide), l129, r130, r131, r132⟩
        obtain rfl := Option.some.inj hF
        exact fin _ _ hret
      replace hF := cond_f hc126 hF
      refine wp_skip ?_
      refine t_norm ?_
      refine wp_seq ?_
      refine c_region ?_
      refine l_val E ok (y_move rfl) rfl rfl fun a E => ?_
      refine l_val E ok (y_nilCheck rfl) rfl rfl fun a E => ?_
      refine l_val E ok (y_fieldAddr fo_61_1 rfl) rfl rfl fun a E => ?_
      refine l_val E ok (y_load one_3 rfl (Holds.own 2 rfl rfl)) rfl rfl fun a E => ?_
      refine l_val E ok (y_move rfl) rfl rfl fun a E => ?_
      refine l_val E ok (y_slen Tryz.underlying9 rfl) rfl rfl fun a E => ?_
      refine l_val E ok (y_addw rfl rfl) rfl rfl fun a E => ?_
      refine l_val E ok (y_nilCheck rfl) rfl rfl fun a E => ?_
      refine l_val E ok (y_fieldAddr fo_61_1 rfl) rfl rfl fun a E => ?_
      refine l_storeB E ok 2 rfl rfl rfl inf_3 rfl rfl ⟨rfl, trivial⟩ rfl rfl fun w ok => ?_
      refine wpList_nil ?_
      refine t_norm ?_
      refine wp_seq ?_
      refine c_region ?_
      refine l_val E ok (y_move rfl) rfl rfl fun a E => ?_
      refine l_val E ok (y_assign rfl) rfl rfl fun a E => ?_
      refine wpList_nil ?_
      refine t_norm ?_
      refine wp_ret ?_
      have hret : condition_parser_number__96_R u m0 S pb0 pb1 pb2 x0 x1 x2 (r120.1, (Parser.mk r12.2.s (IntKind.wrap .i64 (r12.2.at_ + (r12.1.length : Int))) r12.2.relations r12.2.e)) a w := ⟨(ok.pk 3 [2, 0, 1] rfl (by decide)), E.d, ⟨rv_t E rfl, trivial⟩, r122, l15, (InR.wrap _ _), r17, r18⟩
      obtain rfl := Option.some.inj hF
      exact fin _ _ hret
  replace hF := cond_t hc86 hF
  replace E := E.upd 28 hc86 rfl
  refine l_val E ok (y_move rfl) rfl rfl fun a E => ?_
  obtain ⟨c87, e88, hF⟩ := bnd hF
  refine l_val E ok (y_index Tryz.underlying9 rfl rfl e88) rfl rfl fun a E => ?_
  refine l_val E ok (y_eql rfl rfl) rfl rfl fun a E => ?_
  refine l_val E ok (y_pickT rfl rfl) rfl rfl fun a E => ?_
  refine l_val E ok (y_pickF rfl rfl) rfl rfl fun a E => ?_
  refine wpList_nil ?_
  refine t_norm ?_
  obtain ⟨o89, hJ, hF⟩ := bnd hF
  refine c_mono (Q' := fun e a w => e = .normal ∧ Ok u m0 ([(pb0, Obj.cells [(Value.string (bs o89.s)), (Value.int .i64 o89.at_), (Value.int .i64 o89.relations), (Value.int .i64 o89.e)].toArray 61 (0, 0))] :: [(pb1, Obj.cells [(Value.int .i64 x1)].toArray 3 (0, 0))] :: [(pb2, Obj.cells [(Value.int .i64 x2.From), (Value.int .i64 x2.To)].toArray 37 (0, 0))] :: S) w ∧ Env 64 a [(0, (Value.pointer (some ⟨pb0, 0, none⟩))), (1, (Value.func (.func 96) #[] #[.pointer (some ⟨pb1, 0, none⟩), .pointer (some ⟨pb2, 0, none⟩)])), (5, (Value.string (bs r12.1)))] ∧ o89.s.length ≤ LIMS ∧ InR .i64 o89.at_ ∧ InR .i64 o89.relations ∧ InR .i64 o89.e) ?_ ?_
  · replace hF := hJ
    clear hJ
    refine c_if E rfl (fun hc94 => ?_) (fun hc94 => ?_)
    rotate_left
    · replace hF := cond_f hc94 hF
      refine wp_skip ?_
      obtain rfl := Option.some.inj hF
      exact ⟨rfl, ⟨ok, E.keep [0, 1, 5], l15, r16, r17, r18⟩⟩
    replace hF := cond_t hc94 hF
    refine c_region ?_
    refine l_val E ok (y_move rfl) rfl rfl fun a E => ?_
    obtain ⟨r95, e96, hF⟩ := bnd hF
    refine l_call E go_40 rfl (condition_parser_fail_w N 3 (show InR .i64 (3) by decide) r12.2 l15 r16 r17 r18 e96 hG ok) rfl rfl ?_
    rintro _ w ⟨⟨rfl, ok⟩, l97, r98, r99, r100⟩
    refine ⟨_, rfl, fun a E => ?_⟩
    refine wpList_nil ?_
    obtain rfl := Option.some.inj hF
    exact ⟨rfl, ⟨ok, E.keep [0, 1, 5], l97, r98, r99, r100⟩⟩
  clear hJ
  intro e a w hO
  obtain ⟨rfl, ok, E, l101, r102, r103, r104⟩ := hO
  refine t_norm ?_
  refine wp_seq ?_
  refine wp_seq ?_
  refine c_region ?_
  refine l_val E ok (y_move rfl) rfl rfl fun a E => ?_
  refine l_val E ok (y_nilCheck rfl) rfl rfl fun a E => ?_
  refine l_val E ok (y_fieldAddr fo_61_3 rfl) rfl rfl fun a E => ?_
  refine l_val E ok (y_load one_26 rfl (Holds.own 0 rfl rfl)) rfl rfl fun a E => ?_
  refine l_val E ok (y_neq rfl rfl) rfl rfl fun a E => ?_
  refine wpList_nil ?_
  refine t_norm ?_
  refine c_if E rfl (fun hc105 => ?_) (fun hc105 => ?_)
  · replace hF := cond_t hc105 hF
    refine wp_seq ?_
    refine c_region ?_
    refine l_val E ok (y_assign rfl) rfl rfl fun a E => ?_
    refine wpList_nil ?_
    refine t_norm ?_
    refine wp_ret ?_
    refine t_ret ?_
    have hret : condition_parser_number__96_R u m0 S pb0 pb1 pb2 x0 x1 x2 (0, o89) a w := ⟨ok, E.d, ⟨rv_t E rfl, trivial⟩, (show InR .i64 (0) by decide), l101, r102, r103, r104⟩
    obtain rfl := Option.some.inj hF
    exact fin _ _ hret
  replace hF := cond_f hc105 hF
  refine wp_skip ?_
  refine t_norm ?_
  refine wp_seq ?_
  refine c_region ?_
  refine l_val E ok (y_move rfl) rfl rfl fun a E => ?_
  obtain ⟨r106, e107, hF⟩ := bnd hF
  refine l_call E go_93 rfl (strconv_Atoi_w N r12.1 l14 e107 hG ok) rfl rfl ?_
  rintro _ w ⟨⟨rfl, ok⟩, r108⟩
  refine ⟨_, rfl, fun a E => ?_⟩
  refine l_val E ok (y_move rfl) rfl rfl fun a E => ?_
  refine l_val E ok (y_extract rfl rfl) rfl rfl fun a E => ?_
  refine l_val E ok (y_extract rfl rfl) rfl rfl fun a E => ?_
  refine l_val E ok (y_assign rfl) rfl rfl fun a E => ?_
  refine l_val E ok (y_assign rfl) rfl rfl fun a E => ?_
  refine wpList_nil ?_
  refine t_norm ?_
  refine wp_seq ?_
  refine wp_seq ?_
  refine c_region ?_
  refine l_val E ok (y_move rfl) rfl rfl fun a E => ?_
  refine l_val E ok (y_move rfl) rfl rfl fun a E => ?_
  obtain ⟨r109, e110, hF⟩ := bnd hF
  replace ok : Ok u m0 ([(pb1, Obj.cells [(Value.int .i64 x1)].toArray 3 (0, 0))] :: [(pb2, Obj.cells [(Value.int .i64 x2.From), (Value.int .i64 x2.To)].toArray 37 (0, 0))] :: [(pb0, Obj.cells [(Value.string (bs o89.s)), (Value.int .i64 o89.at_), (Value.int .i64 o89.relations), (Value.int .i64 o89.e)].toArray 61 (0, 0))] :: S) w := (ok.pk 3 [1, 2, 0] rfl (by decide))
  refine l_callc E rfl go_96 rfl (condition_parser_span_2_w N r106.1 r108 x1 r5 x2 r6 r7 e110 hG ok) rfl rfl ?_
  rintro _ w ⟨⟨rfl, ok⟩, r111⟩
  refine ⟨_, rfl, fun a E => ?_⟩
  refine l_val E ok (y_assign rfl) rfl rfl fun a E => ?_
  refine wpList_nil ?_
  refine t_norm ?_
  refine wp_seq ?_
  refine c_region ?_
  refine l_val E ok (y_move rfl) rfl rfl fun a E => ?_
  refine l_val E ok (y_neq rfl rfl) rfl rfl fun a E => ?_
  refine wpList_nil ?_
  refine t_norm ?_
  refine c_if E rfl (fun hc112 => ?_) (fun hc112 => ?_)
  · replace hF := cond_t hc112 hF
    refine wp_seq ?_
    refine c_region ?_
    refine l_val E ok (y_move rfl) rfl rfl fun a E => ?_
    refine l_val E ok (y_move rfl) rfl rfl fun a E => ?_
    obtain ⟨r113, e114, hF⟩ := bnd hF
    replace ok : Ok u m0 ([(pb0, Obj.cells [(Value.string (bs o89.s)), (Value.int .i64 o89.at_), (Value.int .i64 o89.relations), (Value.int .i64 o89.e)].toArray 61 (0, 0))] :: [(pb1, Obj.cells [(Value.int .i64 x1)].toArray 3 (0, 0))] :: [(pb2, Obj.cells [(Value.int .i64 x2.From), (Value.int .i64 x2.To)].toArray 37 (0, 0))] :: S) w := (ok.pk 3 [2, 0, 1] rfl (by decide))
    refine l_call E go_40 rfl (condition_parser_fail_w N r109 r111 o89 l101 r102 r103 r104 e114 hG ok) rfl rfl ?_
    rintro _ w ⟨⟨rfl, ok⟩, l115, r116, r117, r118⟩
    refine ⟨_, rfl, fun a E => ?_⟩
    refine wpList_nil ?_
    refine t_norm ?_
    refine wp_seq ?_
    refine c_region ?_
    refine l_val E ok (y_assign rfl) rfl rfl fun a E => ?_
    refine wpList_nil ?_
    refine t_norm ?_
    refine wp_ret ?_
    refine t_ret ?_
    have hret : condition_parser_number__96_R u m0 S pb0 pb1 pb2 x0 x1 x2 (0, r113) a w := ⟨ok, E.d, ⟨rv_t E rfl, trivial⟩, (show InR .i64 (0) by decide), l115, r116, r117, r118⟩
    obtain rfl := Option.some.inj hF
    exact fin _ _ hret
  replace hF := cond_f hc112 hF
  refine wp_skip ?_
  refine t_norm ?_
  refine wp_seq ?_
  refine c_region ?_
  refine l_val E ok (y_move rfl) rfl rfl fun a E => ?_
  refine l_val E ok (y_nilCheck rfl) rfl rfl fun a E => ?_
  refine l_val E ok (y_fieldAddr fo_61_1 rfl) rfl rfl fun a E => ?_
  refine l_val E ok (y_load one_3 rfl (Holds.own 2 rfl rfl)) rfl rfl fun a E => ?_
  refine l_val E ok (y_move rfl) rfl rfl fun a E => ?_
  refine l_val E ok (y_slen Tryz.underlying9 rfl) rfl rfl fun a E => ?_
  refine l_val E ok (y_addw rfl rfl) rfl rfl fun a E => ?_
  refine l_val E ok (y_nilCheck rfl) rfl rfl fun a E => ?_
  refine l_val E ok (y_fieldAddr fo_61_1 rfl) rfl rfl fun a E => ?_
  refine l_storeB E ok 2 rfl rfl rfl inf_3 rfl rfl ⟨rfl, trivial⟩ rfl rfl fun w ok => ?_
  refine wpList_nil ?_
  refine t_norm ?_
  refine wp_seq ?_
  refine c_region ?_
  refine l_val E ok (y_move rfl) rfl rfl fun a E => ?_
  refine l_val E ok (y_assign rfl) rfl rfl fun a E => ?_
  refine wpList_nil ?_
  refine t_norm ?_
  refine wp_ret ?_
  have hret : condition_parser_number__96_R u m0 S pb0 pb1 pb2 x0 x1 x2 (r106.1, (Parser.mk o89.s (IntKind.wrap .i64 (o89.at_ + (r12.1.length : Int))) o89.relations o89.e)) a w := ⟨(ok.pk 3 [2, 0, 1] rfl (by decide)), E.d, ⟨rv_t E rfl, trivial⟩, r108, l101, (InR.wrap _ _), r103, r104⟩
  obtain rfl := Option.some.inj hF
  exact fin _ _ hret

def condition_parser_span_R (u : World) (m0 : Mem) (S : Segs) (pb0 : Nat) (x0 : Parser) (r : Span × Parser) (a : Act) (w : World) : Prop :=
  ∃ m1 v0, m0.le m1 ∧ Ok u m1 ([(pb0, Obj.cells [(Value.string (bs r.2.s)), (Value.int .i64 r.2.at_), (Value.int .i64 r.2.relations), (Value.int .i64 r.2.e)].toArray 61 (0, 0))] :: S) w ∧ a.defers = [] ∧ RVs Tryz.prog a w [.c 6 37 (.agg v0.toArray)] ∧ pSpan m1 v0 r.1 ∧ r.2.s.length ≤ LIMS ∧ InR .i64 r.2.at_ ∧ InR .i64 r.2.relations ∧ InR .i64 r.2.e
set_option maxHeartbeats 4000000 in
set_option maxRecDepth 100000 in
theorem condition_parser_span_w {u : World} {m0 : Mem} {S : Segs} {w : World} (N : Nat) (operand_1 : Int) (roperand_1 : InR .i64 operand_1) (count_2 : Int) (rcount_2 : InR .i64 count_2) {pb0 : Nat} (x0 : Parser) (l1 : x0.s.length ≤ LIMS) (r2 : InR .i64 x0.at_) (r3 : InR .i64 x0.relations) (r4 : InR .i64 x0.e) {r : Span × Parser} (hF : condition_parser_span N operand_1 count_2 x0 = some r) (hG : Glob u) (ok : Ok u m0 ([(pb0, Obj.cells [(Value.string (bs x0.s)), (Value.int .i64 x0.at_), (Value.int .i64 x0.relations), (Value.int .i64 x0.e)].toArray 61 (0, 0))] :: S) w) :
    Calls Tryz.prog 71 [Value.pointer (some ⟨pb0, 0, none⟩), Value.int .i64 operand_1, Value.int .i64 count_2].toArray w fun e w' => ∃ m1 v0, e = .returned (.agg v0.toArray) ∧ m0.le m1 ∧ Ok u m1 ([(pb0, Obj.cells [(Value.string (bs r.2.s)), (Value.int .i64 r.2.at_), (Value.int .i64 r.2.relations), (Value.int .i64 r.2.e)].toArray 61 (0, 0))] :: S) w' ∧ pSpan m1 v0 r.1 ∧ r.2.s.length ≤ LIMS ∧ InR .i64 r.2.at_ ∧ InR .i64 r.2.relations ∧ InR .i64 r.2.e := by
  have le_m0 := Mem.le.refl m0
  unfold condition_parser_span at hF
  have fin : ∀ a w, condition_parser_span_R u m0 S pb0 x0 r a w → bodyPost Tryz.prog Tryz.f71 (fun e w' => ∃ m1 v0, e = .returned (.agg v0.toArray) ∧ m0.le m1 ∧ Ok u m1 ([(pb0, Obj.cells [(Value.string (bs r.2.s)), (Value.int .i64 r.2.at_), (Value.int .i64 r.2.relations), (Value.int .i64 r.2.e)].toArray 61 (0, 0))] :: S) w' ∧ pSpan m1 v0 r.1 ∧ r.2.s.length ≤ LIMS ∧ InR .i64 r.2.at_ ∧ InR .i64 r.2.relations ∧ InR .i64 r.2.e) .ret a w := by
    intro a w h
    obtain ⟨m1, v0, hle, ok, hd, hrv, h0, h1, h2, h3, h4⟩ := h
    exact c_ret2 [.c 6 37 (.agg v0.toArray)] hd rfl hrv ⟨m1, v0, rfl, hle, ok, h0, h1, h2, h3, h4⟩
  refine enter Tryz.func71 rfl rfl rfl fun a E => ?_
  refine wp_seq ?_
  refine c_region ?_
  refine l_box E ok rfl rfl rfl fun b9 a w E ok => ?_
  refine l_box E ok rfl rfl rfl fun b10 a w E ok => ?_
  refine l_alloc E ok zero_37 rfl rfl fun b11 a w E ok => ?_
  refine wpList_nil ?_
  refine t_norm ?_
  refine wp_seq ?_
  refine c_region ?_
  refine l_val E ok (y_makeFunc (caps := [.tmp 4, .tmp 5]) rfl) rfl rfl fun a E => ?_
  refine l_val E ok (y_assign rfl) rfl rfl fun a E => ?_
  refine wpList_nil ?_
  refine t_norm ?_
  refine wp_seq ?_
  refine c_region ?_
  refine l_val E ok (y_move rfl) rfl rfl fun a E => ?_
  refine l_val E ok (y_move rfl) rfl rfl fun a E => ?_
  obtain ⟨r12, e13, hF⟩ := bnd hF
  replace ok : Ok u m0 ([(pb0, Obj.cells [(Value.string (bs x0.s)), (Value.int .i64 x0.at_), (Value.int .i64 x0.relations), (Value.int .i64 x0.e)].toArray 61 (0, 0))] :: [(b9, Obj.cells [(Value.int .i64 operand_1)].toArray 3 (0, 0))] :: [(b10, Obj.cells [(Value.int .i64 count_2)].toArray 3 (0, 0))] :: [(b11, Obj.cells [(Value.int .i64 0), (Value.int .i64 0)].toArray 37 (0, 0))] :: S) w := (ok.pk 4 [3, 2, 1, 0] rfl (by decide))
  refine l_call E go_68 rfl (condition_parser_number__95_w N x0 l1 r2 r3 r4 operand_1 roperand_1 count_2 rcount_2 e13 hG ok) rfl rfl ?_
  rintro _ w ⟨⟨rfl, ok⟩, r14, l15, r16, r17, r18⟩
  refine ⟨_, rfl, fun a E => ?_⟩
  refine l_val E ok (y_build (ps := [(0, .tmp 12)]) (qs := [(0, [(Value.int .i64 r12.1)])]) (cs := [(Value.int .i64 r12.1), (Value.int .i64 0)]) zero_37 places_37 rfl ⟨rfl, rfl, rfl, trivial⟩ rfl) rfl rfl fun a E => ?_
  refine l_alloc E ok zero_37 rfl rfl fun b19 a w E ok => ?_
  refine l_storeB E ok 0 rfl rfl rfl inf_37 rfl rfl ⟨rfl, rfl, trivial⟩ rfl rfl fun w ok => ?_
  refine wpList_nil ?_
  refine t_norm ?_
  refine wp_seq ?_
  refine c_region ?_
  refine l_val E ok (y_fieldAddr fo_37_0 rfl) rfl rfl fun a E => ?_
  refine l_val E ok (y_load one_3 rfl (Holds.own 0 rfl rfl)) rfl rfl fun a E => ?_
  refine l_val E ok (y_fieldAddr fo_37_1 rfl) rfl rfl fun a E => ?_
  refine l_storeB E ok 0 rfl rfl rfl inf_3 rfl rfl ⟨rfl, trivial⟩ rfl rfl fun w ok => ?_
  refine wpList_nil ?_
  refine t_norm ?_
  refine wp_seq ?_
  refine wp_seq ?_
  refine c_region ?_
  refine l_val E ok (y_move rfl) rfl rfl fun a E => ?_
  obtain ⟨r20, e21, hF⟩ := bnd hF
  replace ok : Ok u m0 ([(pb0, Obj.cells [(Value.string (bs r12.2.s)), (Value.int .i64 r12.2.at_), (Value.int .i64 r12.2.relations), (Value.int .i64 r12.2.e)].toArray 61 (0, 0))] :: [(b19, Obj.cells [(Value.int .i64 r12.1), (Value.int .i64 r12.1)].toArray 37 (0, 0))] :: [(b9, Obj.cells [(Value.int .i64 operand_1)].toArray 3 (0, 0))] :: [(b10, Obj.cells [(Value.int .i64 count_2)].toArray 3 (0, 0))] :: [(b11, Obj.cells [(Value.int .i64 0), (Value.int .i64 0)].toArray 37 (0, 0))] :: S) w := (ok.pk 5 [1, 0, 2, 3, 4] rfl (by decide))
  refine l_call E go_37 rfl (condition_parser_next_w N ([46, 46]) (show ([46, 46] : List UInt8).length ≤ LIMS by decide) r12.2 l15 r16 r17 r18 e21 hG ok) rfl rfl ?_
  rintro _ w ⟨⟨rfl, ok⟩, l22, r23, r24, r25⟩
  refine ⟨_, rfl, fun a E => ?_⟩
  refine wpList_nil ?_
  refine t_norm ?_
  refine c_if E rfl (fun hc26 => ?_) (fun hc26 => ?_)
  rotate_left
  · replace hF := cond_f hc26 hF
    refine wp_skip ?_
    refine t_norm ?_
    refine wp_seq ?_
    refine c_region ?_
    refine l_val E ok (y_loadAgg (cs := [(Value.int .i64 r12.1), (Value.int .i64 r12.1)]) agg_37 rfl rfl (Holds.own 1 rfl rfl)) rfl rfl fun a E => ?_
    refine l_storeB E ok 4 rfl rfl rfl inf_37 rfl rfl ⟨rfl, rfl, trivial⟩ rfl rfl fun w ok => ?_
    refine wpList_nil ?_
    refine t_norm ?_
    refine wp_ret ?_
    have hret : condition_parser_span_R u m0 S pb0 x0 ((Span.mk r12.1 r12.1), r20.2) a w := ⟨m0, [(Value.int .i64 r12.1), (Value.int .i64 r12.1)], le_m0, (ok.pk 5 [0] rfl (by decide)), E.d, ⟨rv_c (cs := [(Value.int .i64 r12.1), (Value.int .i64 r12.1)]) E ok rfl agg_37 rfl (Holds.own 4 rfl rfl), trivial⟩, ⟨rfl, r14, r14⟩, l22, r23, r24, r25⟩
    obtain rfl := Option.some.inj hF
    exact fin _ _ hret
  replace hF := cond_t hc26 hF
  refine c_region ?_
  refine l_val E ok (y_move rfl) rfl rfl fun a E => ?_
  refine l_val E ok (y_makeFunc (caps := [.tmp 4, .tmp 8]) rfl) rfl rfl fun a E => ?_
  obtain ⟨r27, e28, hF⟩ := bnd hF
  replace ok : Ok u m0 ([(pb0, Obj.cells [(Value.string (bs r20.2.s)), (Value.int .i64 r20.2.at_), (Value.int .i64 r20.2.relations), (Value.int .i64 r20.2.e)].toArray 61 (0, 0))] :: [(b9, Obj.cells [(Value.int .i64 operand_1)].toArray 3 (0, 0))] :: [(b19, Obj.cells [(Value.int .i64 r12.1), (Value.int .i64 r12.1)].toArray 37 (0, 0))] :: [(b10, Obj.cells [(Value.int .i64 count_2)].toArray 3 (0, 0))] :: [(b11, Obj.cells [(Value.int .i64 0), (Value.int .i64 0)].toArray 37 (0, 0))] :: S) w := (ok.pk 5 [0, 2, 1, 3, 4] rfl (by decide))
  refine l_call E go_68 rfl (condition_parser_number__96_w N r20.2 l22 r23 r24 r25 operand_1 roperand_1 (Span.mk r12.1 r12.1) r14 r14 e28 hG ok) rfl rfl ?_
  rintro _ w ⟨⟨rfl, ok⟩, r29, l30, r31, r32, r33⟩
  refine ⟨_, rfl, fun a E => ?_⟩
  refine l_val E ok (y_fieldAddr fo_37_1 rfl) rfl rfl fun a E => ?_
  refine l_storeB E ok 2 rfl rfl rfl inf_3 rfl rfl ⟨rfl, trivial⟩ rfl rfl fun w ok => ?_
  refine wpList_nil ?_
  refine t_norm ?_
  refine wp_seq ?_
  refine c_region ?_
  refine l_val E ok (y_loadAgg (cs := [(Value.int .i64 r12.1), (Value.int .i64 r27.1)]) agg_37 rfl rfl (Holds.own 2 rfl rfl)) rfl rfl fun a E => ?_
  refine l_storeB E ok 4 rfl rfl rfl inf_37 rfl rfl ⟨rfl, rfl, trivial⟩ rfl rfl fun w ok => ?_
  refine wpList_nil ?_
  refine t_norm ?_
  refine wp_ret ?_
  have hret : condition_parser_span_R u m0 S pb0 x0 ((Span.mk r12.1 r27.1), r27.2) a w := ⟨m0, [(Value.int .i64 r12.1), (Value.int .i64 r27.1)], le_m0, (ok.pk 5 [0] rfl (by decide)), E.d, ⟨rv_c (cs := [(Value.int .i64 r12.1), (Value.int .i64 r27.1)]) E ok rfl agg_37 rfl (Holds.own 4 rfl rfl), trivial⟩, ⟨rfl, r14, r29⟩, l30, r31, r32, r33⟩
  obtain rfl := Option.some.inj hF
  exact fin _ _ hret

end Go.Proofs.YtbaiahglondepaaGreatDoor
