/- The walks of this part: the model's run of each function yields what the plain function says. Printed by gen8.py. -/
import Derived.Test.YtmghnmfefpeelaaDoorExt34a1
import Derived.Test.YtmghnmfefpeelaaDoorChecked
import Derived.Test.YtmghnmfefpeelaaDoorShelf
set_option linter.unusedVariables false
namespace Go.Proofs.YtmghnmfefpeelaaDoor
open Go.X

/-- The variable internal/bytealg.MaxLen holds a number. -/
def Glob (u : World) : Prop := ∃ mx, u.cell? ⟨0, 0, none⟩ = some (.int .i64 mx)

def pIns : Rp Ins := fun _ cs x => cs = [.int .i64 x.Op, .int .i64 x.A, .int .i64 x.B, .string (bs x.S)] ∧ InR .i64 x.Op ∧ InR .i64 x.A ∧ InR .i64 x.B ∧ x.S.length ≤ LIMS
theorem mIns : Mono pIns := ⟨fun _ h => by
  obtain ⟨e, h0, h1, h2, h3⟩ := h
  exact ⟨e, h0, h1, h2, h3⟩, fun h => by
  obtain ⟨rfl, h0, h1, h2, h3⟩ := h
  exact ⟨rfl, rfl, rfl, rfl, trivial⟩⟩

def pCode : Rp Code := fun m cs x => ∃ c0 c1, cs = [c0, c1] ∧ (pL 1 pS) m [c0] x.Names ∧ (pL 4 pIns) m [c1] x.Ins
theorem mCode : Mono pCode := ⟨fun hm h => by
  obtain ⟨c0, c1, e, h0, h1⟩ := h
  exact ⟨c0, c1, e, (mL mS).up hm h0, (mL mIns).up hm h1⟩, fun h => by
  obtain ⟨c0, c1, rfl, h0, h1⟩ := h
  exact ⟨((mL mS).one h0).1, ((mL mIns).one h1).1, trivial⟩⟩

def pUses : Rp Uses := fun _ cs x => cs = [.bool x.a, .bool x.b, .bool x.s]
theorem mUses : Mono pUses := ⟨fun _ h => h, fun h => by rw [show _ = _ from h]; exact ⟨rfl, rfl, rfl, trivial⟩⟩

def pArr14_Uses : Rp Arr14_Uses := fun _ cs x => cs = [.bool x.e0.a, .bool x.e0.b, .bool x.e0.s, .bool x.e1.a, .bool x.e1.b, .bool x.e1.s, .bool x.e2.a, .bool x.e2.b, .bool x.e2.s, .bool x.e3.a, .bool x.e3.b, .bool x.e3.s, .bool x.e4.a, .bool x.e4.b, .bool x.e4.s, .bool x.e5.a, .bool x.e5.b, .bool x.e5.s, .bool x.e6.a, .bool x.e6.b, .bool x.e6.s, .bool x.e7.a, .bool x.e7.b, .bool x.e7.s, .bool x.e8.a, .bool x.e8.b, .bool x.e8.s, .bool x.e9.a, .bool x.e9.b, .bool x.e9.s, .bool x.e10.a, .bool x.e10.b, .bool x.e10.s, .bool x.e11.a, .bool x.e11.b, .bool x.e11.s, .bool x.e12.a, .bool x.e12.b, .bool x.e12.s, .bool x.e13.a, .bool x.e13.b, .bool x.e13.s]
theorem mArr14_Uses : Mono pArr14_Uses := ⟨fun _ h => h, fun h => by rw [show _ = _ from h]; exact ⟨rfl, rfl, rfl, rfl, rfl, rfl, rfl, rfl, rfl, rfl, rfl, rfl, rfl, rfl, rfl, rfl, rfl, rfl, rfl, rfl, rfl, rfl, rfl, rfl, rfl, rfl, rfl, rfl, rfl, rfl, rfl, rfl, rfl, rfl, rfl, rfl, rfl, rfl, rfl, rfl, rfl, rfl, trivial⟩⟩

def pNumber : Rp Number := fun _ cs x => cs = [.bool x.negative, .string (bs x.whole), .string (bs x.fraction)] ∧ x.whole.length ≤ LIMS ∧ x.fraction.length ≤ LIMS
theorem mNumber : Mono pNumber := ⟨fun _ h => by
  obtain ⟨e, h1, h2⟩ := h
  exact ⟨e, h1, h2⟩, fun h => by
  obtain ⟨rfl, h1, h2⟩ := h
  exact ⟨rfl, rfl, rfl, trivial⟩⟩

def pFlow : Rp Flow := fun m cs x => ∃ c0 c1 c2 c3 c4, cs = [c0, c1, c2, c3, c4] ∧ (pL 1 pS) m [c0] x.c.Names ∧ (pL 4 pIns) m [c1] x.c.Ins ∧ (pL 1 (pK 1 pS)) m [c2] x.open_ ∧ (pL 1 pB) m [c3] x.reached ∧ (pL 1 pB) m [c4] x.clash
theorem mFlow : Mono pFlow := ⟨fun hm h => by
  obtain ⟨c0, c1, c2, c3, c4, e, h0, h1, h2, h3, h4⟩ := h
  exact ⟨c0, c1, c2, c3, c4, e, (mL mS).up hm h0, (mL mIns).up hm h1, (mL (mK mS)).up hm h2, (mL mB).up hm h3, (mL mB).up hm h4⟩, fun h => by
  obtain ⟨c0, c1, c2, c3, c4, rfl, h0, h1, h2, h3, h4⟩ := h
  exact ⟨((mL mS).one h0).1, ((mL mIns).one h1).1, ((mL (mK mS)).one h2).1, ((mL mB).one h3).1, ((mL mB).one h4).1, trivial⟩⟩

def pFrame : Rp Frame := fun m cs x => ∃ c1, cs = [.string (bs x.name), c1] ∧ x.name.length ≤ LIMS ∧ (pK 1 pS) m [c1] x.up
theorem mFrame : Mono pFrame := ⟨fun hm h => by
  obtain ⟨c1, e, h0, h1⟩ := h
  exact ⟨c1, e, h0, (mK mS).up hm h1⟩, fun h => by
  obtain ⟨c1, rfl, h0, h1⟩ := h
  exact ⟨rfl, ((mK mS).one h1).1, trivial⟩⟩

theorem agg_31 : aggB Tryd.prog 31 2 = true := by kernel_rfl
theorem agg_35 : aggB Tryd.prog 35 4 = true := by kernel_rfl
theorem agg_41 : aggB Tryd.prog 41 4 = true := by kernel_rfl
theorem agg_51 : aggB Tryd.prog 51 3 = true := by kernel_rfl
theorem agg_84 : aggB Tryd.prog 84 3 = true := by kernel_rfl
theorem art_69 : ArT Tryd.prog 69 51 14 3 := ArT.of (by kernel_rfl)
theorem fo_25_0 : fieldOffB Tryd.prog 25 0 0 = true := by kernel_rfl
theorem fo_25_1 : fieldOffB Tryd.prog 25 1 1 = true := by kernel_rfl
theorem fo_31_0 : fieldOffB Tryd.prog 31 0 0 = true := by kernel_rfl
theorem fo_31_1 : fieldOffB Tryd.prog 31 1 1 = true := by kernel_rfl
theorem fo_35_3 : fieldOffB Tryd.prog 35 3 3 = true := by kernel_rfl
theorem fo_41_0 : fieldOffB Tryd.prog 41 0 0 = true := by kernel_rfl
theorem fo_41_1 : fieldOffB Tryd.prog 41 1 1 = true := by kernel_rfl
theorem fo_41_2 : fieldOffB Tryd.prog 41 2 2 = true := by kernel_rfl
theorem fo_41_3 : fieldOffB Tryd.prog 41 3 3 = true := by kernel_rfl
theorem fo_51_0 : fieldOffB Tryd.prog 51 0 0 = true := by kernel_rfl
theorem fo_51_1 : fieldOffB Tryd.prog 51 1 1 = true := by kernel_rfl
theorem fo_51_2 : fieldOffB Tryd.prog 51 2 2 = true := by kernel_rfl
theorem fo_66_0 : fieldOffB Tryd.prog 66 0 0 = true := by kernel_rfl
theorem fo_66_1 : fieldOffB Tryd.prog 66 1 2 = true := by kernel_rfl
theorem fo_66_2 : fieldOffB Tryd.prog 66 2 3 = true := by kernel_rfl
theorem fo_66_3 : fieldOffB Tryd.prog 66 3 4 = true := by kernel_rfl
theorem fo_82_0 : fieldOffB Tryd.prog 82 0 0 = true := by kernel_rfl
theorem fo_82_1 : fieldOffB Tryd.prog 82 1 1 = true := by kernel_rfl
theorem fo_84_1 : fieldOffB Tryd.prog 84 1 1 = true := by kernel_rfl
theorem fo_84_2 : fieldOffB Tryd.prog 84 2 2 = true := by kernel_rfl
theorem go_10 : goB Tryd.prog 10 = true := by kernel_rfl
theorem go_13 : goB Tryd.prog 13 = true := by kernel_rfl
theorem go_18 : goB Tryd.prog 18 = true := by kernel_rfl
theorem go_19 : goB Tryd.prog 19 = true := by kernel_rfl
theorem go_20 : goB Tryd.prog 20 = true := by kernel_rfl
theorem go_21 : goB Tryd.prog 21 = true := by kernel_rfl
theorem go_22 : goB Tryd.prog 22 = true := by kernel_rfl
theorem go_27 : goB Tryd.prog 27 = true := by kernel_rfl
theorem go_30 : goB Tryd.prog 30 = true := by kernel_rfl
theorem go_31 : goB Tryd.prog 31 = true := by kernel_rfl
theorem go_32 : goB Tryd.prog 32 = true := by kernel_rfl
theorem go_33 : goB Tryd.prog 33 = true := by kernel_rfl
theorem go_37 : goB Tryd.prog 37 = true := by kernel_rfl
theorem go_38 : goB Tryd.prog 38 = true := by kernel_rfl
theorem go_41 : goB Tryd.prog 41 = true := by kernel_rfl
theorem go_42 : goB Tryd.prog 42 = true := by kernel_rfl
theorem go_43 : goB Tryd.prog 43 = true := by kernel_rfl
theorem go_47 : goB Tryd.prog 47 = true := by kernel_rfl
theorem go_49 : goB Tryd.prog 49 = true := by kernel_rfl
theorem go_50 : goB Tryd.prog 50 = true := by kernel_rfl
theorem go_52 : goB Tryd.prog 52 = true := by kernel_rfl
theorem go_54 : goB Tryd.prog 54 = true := by kernel_rfl
theorem go_55 : goB Tryd.prog 55 = true := by kernel_rfl
theorem go_56 : goB Tryd.prog 56 = true := by kernel_rfl
theorem go_57 : goB Tryd.prog 57 = true := by kernel_rfl
theorem go_61 : goB Tryd.prog 61 = true := by kernel_rfl
theorem go_62 : goB Tryd.prog 62 = true := by kernel_rfl
set_option maxRecDepth 100000 in
theorem inf_29 : ∃ i, Tryd.prog.info? 29 = some i ∧ i.size = 1 := ⟨_, rfl, by kernel_rfl⟩
set_option maxRecDepth 100000 in
theorem inf_31 : ∃ i, Tryd.prog.info? 31 = some i ∧ i.size = 2 := ⟨_, rfl, by kernel_rfl⟩
set_option maxRecDepth 100000 in
theorem inf_4 : ∃ i, Tryd.prog.info? 4 = some i ∧ i.size = 1 := ⟨_, rfl, by kernel_rfl⟩
set_option maxRecDepth 100000 in
theorem inf_41 : ∃ i, Tryd.prog.info? 41 = some i ∧ i.size = 4 := ⟨_, rfl, by kernel_rfl⟩
set_option maxRecDepth 100000 in
theorem inf_51 : ∃ i, Tryd.prog.info? 51 = some i ∧ i.size = 3 := ⟨_, rfl, by kernel_rfl⟩
set_option maxRecDepth 100000 in
theorem inf_69 : ∃ i, Tryd.prog.info? 69 = some i ∧ i.size = 42 := ⟨_, rfl, by kernel_rfl⟩
set_option maxRecDepth 100000 in
theorem inf_79 : ∃ i, Tryd.prog.info? 79 = some i ∧ i.size = 1 := ⟨_, rfl, by kernel_rfl⟩
set_option maxRecDepth 100000 in
theorem inf_84 : ∃ i, Tryd.prog.info? 84 = some i ∧ i.size = 3 := ⟨_, rfl, by kernel_rfl⟩
theorem one_22 : oneB Tryd.prog 22 = true := by kernel_rfl
theorem one_23 : oneB Tryd.prog 23 = true := by kernel_rfl
theorem one_29 : oneB Tryd.prog 29 = true := by kernel_rfl
theorem one_3 : oneB Tryd.prog 3 = true := by kernel_rfl
theorem one_4 : oneB Tryd.prog 4 = true := by kernel_rfl
theorem one_46 : oneB Tryd.prog 46 = true := by kernel_rfl
theorem one_64 : oneB Tryd.prog 64 = true := by kernel_rfl
theorem one_79 : oneB Tryd.prog 79 = true := by kernel_rfl
theorem one_9 : oneB Tryd.prog 9 = true := by kernel_rfl
theorem places_31 : placesB Tryd.prog 31 = some [(0, 1), (1, 1)] := by kernel_rfl
theorem places_41 : placesB Tryd.prog 41 = some [(0, 1), (1, 1), (2, 1), (3, 1)] := by kernel_rfl
theorem places_51 : placesB Tryd.prog 51 = some [(0, 1), (1, 1), (2, 1)] := by kernel_rfl
theorem places_66 : placesB Tryd.prog 66 = some [(0, 2), (2, 1), (3, 1), (4, 1)] := by kernel_rfl
theorem places_82 : placesB Tryd.prog 82 = some [(0, 1), (1, 1)] := by kernel_rfl
theorem places_84 : placesB Tryd.prog 84 = some [(0, 1), (1, 1), (2, 1)] := by kernel_rfl
theorem sl_22 : SlT Tryd.prog 22 9 1 := SlT.of (by kernel_rfl)
theorem sl_23 : SlT Tryd.prog 23 35 4 := SlT.of (by kernel_rfl)
theorem sl_29 : SlT Tryd.prog 29 41 4 := SlT.of (by kernel_rfl)
theorem sl_46 : SlT Tryd.prog 46 4 1 := SlT.of (by kernel_rfl)
theorem sl_64 : SlT Tryd.prog 64 79 1 := SlT.of (by kernel_rfl)
theorem zeroV_4 : zeroV Tryd.prog 4 = some (Value.bool false) := by kernel_rfl
theorem zero_31 : zeroB Tryd.prog 31 = some [(Value.slice none 0 0), (Value.slice none 0 0)] := by kernel_rfl
theorem zero_4 : zeroB Tryd.prog 4 = some [(Value.bool false)] := by kernel_rfl
theorem zero_41 : zeroB Tryd.prog 41 = some [(Value.int .i64 0), (Value.int .i64 0), (Value.int .i64 0), (Value.string (bs ([])))] := by kernel_rfl
theorem zero_51 : zeroB Tryd.prog 51 = some [(Value.bool false), (Value.bool false), (Value.bool false)] := by kernel_rfl
theorem zero_66 : zeroB Tryd.prog 66 = some [(Value.slice none 0 0), (Value.slice none 0 0), (Value.slice none 0 0), (Value.slice none 0 0), (Value.slice none 0 0)] := by kernel_rfl
theorem zero_69 : zeroB Tryd.prog 69 = some [(Value.bool false), (Value.bool false), (Value.bool false), (Value.bool false), (Value.bool false), (Value.bool false), (Value.bool false), (Value.bool false), (Value.bool false), (Value.bool false), (Value.bool false), (Value.bool false), (Value.bool false), (Value.bool false), (Value.bool false), (Value.bool false), (Value.bool false), (Value.bool false), (Value.bool false), (Value.bool false), (Value.bool false), (Value.bool false), (Value.bool false), (Value.bool false), (Value.bool false), (Value.bool false), (Value.bool false), (Value.bool false), (Value.bool false), (Value.bool false), (Value.bool false), (Value.bool false), (Value.bool false), (Value.bool false), (Value.bool false), (Value.bool false), (Value.bool false), (Value.bool false), (Value.bool false), (Value.bool false), (Value.bool false), (Value.bool false)] := by kernel_rfl
theorem zero_79 : zeroB Tryd.prog 79 = some [(Value.pointer none)] := by kernel_rfl
theorem zero_82 : zeroB Tryd.prog 82 = some [(Value.string (bs ([]))), (Value.pointer none)] := by kernel_rfl
theorem zero_84 : zeroB Tryd.prog 84 = some [(Value.bool false), (Value.string (bs ([]))), (Value.string (bs ([])))] := by kernel_rfl
theorem zero_9 : zeroB Tryd.prog 9 = some [(Value.string (bs ([])))] := by kernel_rfl

def verify_fields_R (u : World) (m0 : Mem) (S : Segs) (r : Uses × Bool) (a : Act) (w : World) : Prop :=
  ∃ m1 v0, m0.le m1 ∧ Ok u m1 S w ∧ a.defers = [] ∧ RVs Tryd.prog a w [.c 2 51 (.agg v0.toArray), .t 3 (.bool r.2)] ∧ pUses m1 v0 r.1
set_option maxHeartbeats 4000000 in
set_option maxRecDepth 100000 in
theorem verify_fields_w {u : World} {m0 : Mem} {S : Segs} {w : World} (N : Nat) (op_0 : Int) (rop_0 : InR .i64 op_0) {r : Uses × Bool} (hF : verify_fields N op_0 = some r) (hG : Glob u) (ok : Ok u m0 S w) :
    Calls Tryd.prog 18 [Value.int .i64 op_0].toArray w fun e w' => ∃ m1 v0, e = .returned (.tuple [(.agg v0.toArray), (.bool r.2)].toArray) ∧ m0.le m1 ∧ Ok u m1 S w' ∧ pUses m1 v0 r.1 := by
  have le_m0 := Mem.le.refl m0
  unfold verify_fields at hF
  have fin : ∀ a w, verify_fields_R u m0 S r a w → bodyPost Tryd.prog Tryd.f18 (fun e w' => ∃ m1 v0, e = .returned (.tuple [(.agg v0.toArray), (.bool r.2)].toArray) ∧ m0.le m1 ∧ Ok u m1 S w' ∧ pUses m1 v0 r.1) .ret a w := by
    intro a w h
    obtain ⟨m1, v0, hle, ok, hd, hrv, h0⟩ := h
    exact c_ret2 [.c 2 51 (.agg v0.toArray), .t 3 (.bool r.2)] hd rfl hrv ⟨m1, v0, rfl, hle, ok, h0⟩
  refine enter Tryd.func18 rfl rfl rfl fun a E => ?_
  refine wp_seq ?_
  refine c_region ?_
  refine l_alloc E ok zero_51 rfl rfl fun b1 a w E ok => ?_
  refine l_val E ok (y_assign rfl) rfl rfl fun a E => ?_
  refine wpList_nil ?_
  refine t_norm ?_
  refine wp_seq ?_
  refine c_region ?_
  refine l_val E ok (y_build (ps := [(2, .const (Value.bool true))]) (qs := [(2, [(Value.bool true)])]) (cs := [(Value.bool false), (Value.bool false), (Value.bool true)]) zero_51 places_51 rfl ⟨rfl, rfl, rfl, trivial⟩ rfl) rfl rfl fun a E => ?_
  refine l_val E ok (y_build (ps := [(2, .const (Value.bool true))]) (qs := [(2, [(Value.bool true)])]) (cs := [(Value.bool false), (Value.bool false), (Value.bool true)]) zero_51 places_51 rfl ⟨rfl, rfl, rfl, trivial⟩ rfl) rfl rfl fun a E => ?_
  refine l_val E ok (y_build (ps := [(2, .const (Value.bool true))]) (qs := [(2, [(Value.bool true)])]) (cs := [(Value.bool false), (Value.bool false), (Value.bool true)]) zero_51 places_51 rfl ⟨rfl, rfl, rfl, trivial⟩ rfl) rfl rfl fun a E => ?_
  refine l_val E ok (y_build (ps := [(2, .const (Value.bool true))]) (qs := [(2, [(Value.bool true)])]) (cs := [(Value.bool false), (Value.bool false), (Value.bool true)]) zero_51 places_51 rfl ⟨rfl, rfl, rfl, trivial⟩ rfl) rfl rfl fun a E => ?_
  refine l_val E ok (y_build (ps := [(0, .const (Value.bool true))]) (qs := [(0, [(Value.bool true)])]) (cs := [(Value.bool true), (Value.bool false), (Value.bool false)]) zero_51 places_51 rfl ⟨rfl, rfl, rfl, trivial⟩ rfl) rfl rfl fun a E => ?_
  refine l_val E ok (y_build (ps := [(0, .const (Value.bool true)), (2, .const (Value.bool true))]) (qs := [(0, [(Value.bool true)]), (2, [(Value.bool true)])]) (cs := [(Value.bool true), (Value.bool false), (Value.bool true)]) zero_51 places_51 rfl ⟨rfl, rfl, rfl, ⟨rfl, rfl, rfl, trivial⟩⟩ rfl) rfl rfl fun a E => ?_
  refine l_val E ok (y_build (ps := [(0, .const (Value.bool true)), (2, .const (Value.bool true))]) (qs := [(0, [(Value.bool true)]), (2, [(Value.bool true)])]) (cs := [(Value.bool true), (Value.bool false), (Value.bool true)]) zero_51 places_51 rfl ⟨rfl, rfl, rfl, ⟨rfl, rfl, rfl, trivial⟩⟩ rfl) rfl rfl fun a E => ?_
  refine l_val E ok (y_build (ps := [(0, .const (Value.bool true)), (2, .const (Value.bool true))]) (qs := [(0, [(Value.bool true)]), (2, [(Value.bool true)])]) (cs := [(Value.bool true), (Value.bool false), (Value.bool true)]) zero_51 places_51 rfl ⟨rfl, rfl, rfl, ⟨rfl, rfl, rfl, trivial⟩⟩ rfl) rfl rfl fun a E => ?_
  refine l_val E ok (y_build (ps := [(0, .const (Value.bool true)), (2, .const (Value.bool true))]) (qs := [(0, [(Value.bool true)]), (2, [(Value.bool true)])]) (cs := [(Value.bool true), (Value.bool false), (Value.bool true)]) zero_51 places_51 rfl ⟨rfl, rfl, rfl, ⟨rfl, rfl, rfl, trivial⟩⟩ rfl) rfl rfl fun a E => ?_
  refine l_val E ok (y_build (ps := [(0, .const (Value.bool true)), (1, .const (Value.bool true))]) (qs := [(0, [(Value.bool true)]), (1, [(Value.bool true)])]) (cs := [(Value.bool true), (Value.bool true), (Value.bool false)]) zero_51 places_51 rfl ⟨rfl, rfl, rfl, ⟨rfl, rfl, rfl, trivial⟩⟩ rfl) rfl rfl fun a E => ?_
  refine l_val E ok (y_build (ps := [(0, .const (Value.bool true)), (2, .const (Value.bool true))]) (qs := [(0, [(Value.bool true)]), (2, [(Value.bool true)])]) (cs := [(Value.bool true), (Value.bool false), (Value.bool true)]) zero_51 places_51 rfl ⟨rfl, rfl, rfl, ⟨rfl, rfl, rfl, trivial⟩⟩ rfl) rfl rfl fun a E => ?_
  refine l_val E ok (y_build (ps := [(0, .const (Value.bool true))]) (qs := [(0, [(Value.bool true)])]) (cs := [(Value.bool true), (Value.bool false), (Value.bool false)]) zero_51 places_51 rfl ⟨rfl, rfl, rfl, trivial⟩ rfl) rfl rfl fun a E => ?_
  refine l_val E ok (y_build (ps := []) (qs := []) (cs := [(Value.bool false), (Value.bool false), (Value.bool false)]) zero_51 places_51 rfl trivial rfl) rfl rfl fun a E => ?_
  refine l_val E ok (y_buildA (ps := [(1, .tmp 5), (2, .tmp 6), (3, .tmp 7), (4, .tmp 8), (5, .tmp 9), (6, .tmp 10), (7, .tmp 11), (8, .tmp 12), (9, .tmp 13), (10, .tmp 14), (11, .tmp 15), (12, .tmp 16), (13, .tmp 17)]) (qs := [(3, [(Value.bool false), (Value.bool false), (Value.bool true)]), (6, [(Value.bool false), (Value.bool false), (Value.bool true)]), (9, [(Value.bool false), (Value.bool false), (Value.bool true)]), (12, [(Value.bool false), (Value.bool false), (Value.bool true)]), (15, [(Value.bool true), (Value.bool false), (Value.bool false)]), (18, [(Value.bool true), (Value.bool false), (Value.bool true)]), (21, [(Value.bool true), (Value.bool false), (Value.bool true)]), (24, [(Value.bool true), (Value.bool false), (Value.bool true)]), (27, [(Value.bool true), (Value.bool false), (Value.bool true)]), (30, [(Value.bool true), (Value.bool true), (Value.bool false)]), (33, [(Value.bool true), (Value.bool false), (Value.bool true)]), (36, [(Value.bool true), (Value.bool false), (Value.bool false)]), (39, [(Value.bool false), (Value.bool false), (Value.bool false)])]) (cs := [(Value.bool false), (Value.bool false), (Value.bool false), (Value.bool false), (Value.bool false), (Value.bool true), (Value.bool false), (Value.bool false), (Value.bool true), (Value.bool false), (Value.bool false), (Value.bool true), (Value.bool false), (Value.bool false), (Value.bool true), (Value.bool true), (Value.bool false), (Value.bool false), (Value.bool true), (Value.bool false), (Value.bool true), (Value.bool true), (Value.bool false), (Value.bool true), (Value.bool true), (Value.bool false), (Value.bool true), (Value.bool true), (Value.bool false), (Value.bool true), (Value.bool true), (Value.bool true), (Value.bool false), (Value.bool true), (Value.bool false), (Value.bool true), (Value.bool true), (Value.bool false), (Value.bool false), (Value.bool false), (Value.bool false), (Value.bool false)]) zero_69 art_69 rfl ⟨rfl, rfl, rfl, ⟨rfl, rfl, rfl, ⟨rfl, rfl, rfl, ⟨rfl, rfl, rfl, ⟨rfl, rfl, rfl, ⟨rfl, rfl, rfl, ⟨rfl, rfl, rfl, ⟨rfl, rfl, rfl, ⟨rfl, rfl, rfl, ⟨rfl, rfl, rfl, ⟨rfl, rfl, rfl, ⟨rfl, rfl, rfl, ⟨rfl, rfl, rfl, trivial⟩⟩⟩⟩⟩⟩⟩⟩⟩⟩⟩⟩⟩ rfl) rfl rfl fun a E => ?_
  refine l_alloc E ok zero_69 rfl rfl fun b2 a w E ok => ?_
  refine l_storeB E ok 0 rfl rfl rfl inf_69 rfl rfl ⟨rfl, rfl, rfl, rfl, rfl, rfl, rfl, rfl, rfl, rfl, rfl, rfl, rfl, rfl, rfl, rfl, rfl, rfl, rfl, rfl, rfl, rfl, rfl, rfl, rfl, rfl, rfl, rfl, rfl, rfl, rfl, rfl, rfl, rfl, rfl, rfl, rfl, rfl, rfl, rfl, rfl, rfl, trivial⟩ rfl rfl fun w ok => ?_
  refine wpList_nil ?_
  refine t_norm ?_
  refine wp_seq ?_
  refine wp_seq ?_
  refine c_region ?_
  refine l_val E ok (y_move rfl) rfl rfl fun a E => ?_
  refine l_val E ok (y_lss rfl rfl) rfl rfl fun a E => ?_
  refine l_val E ok (y_move rfl) rfl rfl fun a E => ?_
  refine bsplit (decide (op_0 < 1)) (fun hc3 => ?_) (fun hc3 => ?_)
  · replace hF := cond_t hc3 hF
    replace E := E.upd 21 hc3 rfl
    iterate 2 refine l_skip E rfl rfl fun a E => ?_
    refine l_val E ok (y_pickT rfl rfl) rfl rfl fun a E => ?_
    refine wpList_nil ?_
    refine t_norm ?_
    refine c_if E rfl (fun _ => ?_) (fun h => by cases h)
    refine wp_seq ?_
    refine c_region ?_
    refine l_val E ok (y_build (ps := []) (qs := []) (cs := [(Value.bool false), (Value.bool false), (Value.bool false)]) zero_51 places_51 rfl trivial rfl) rfl rfl fun a E => ?_
    refine l_storeB E ok 1 rfl rfl rfl inf_51 rfl rfl ⟨rfl, rfl, rfl, trivial⟩ rfl rfl fun w ok => ?_
    refine l_val E ok (y_assign rfl) rfl rfl fun a E => ?_
    refine wpList_nil ?_
    refine t_norm ?_
    refine wp_ret ?_
    refine t_ret ?_
    have hret : verify_fields_R u m0 S ((Uses.mk false false false), false) a w := ⟨m0, [(Value.bool false), (Value.bool false), (Value.bool false)], le_m0, ok.drop.drop, E.d, ⟨rv_c (cs := [(Value.bool false), (Value.bool false), (Value.bool false)]) E ok rfl agg_51 rfl (Holds.own 1 rfl rfl), rv_t E rfl, trivial⟩, rfl⟩
    obtain rfl := Option.some.inj hF
    exact fin _ _ hret
  replace hF := cond_f hc3 hF
  replace E := E.upd 21 hc3 rfl
  refine l_val E ok (y_move rfl) rfl rfl fun a E => ?_
  refine l_val E ok (y_gtr rfl rfl) rfl rfl fun a E => ?_
  refine l_val E ok (y_pickF rfl rfl) rfl rfl fun a E => ?_
  refine wpList_nil ?_
  refine t_norm ?_
  refine c_if E rfl (fun hc4 => ?_) (fun hc4 => ?_)
  · replace hF := cond_t hc4 hF
    refine wp_seq ?_
    refine c_region ?_
    refine l_val E ok (y_build (ps := []) (qs := []) (cs := [(Value.bool false), (Value.bool false), (Value.bool false)]) zero_51 places_51 rfl trivial rfl) rfl rfl fun a E => ?_
    refine l_storeB E ok 1 rfl rfl rfl inf_51 rfl rfl ⟨rfl, rfl, rfl, trivial⟩ rfl rfl fun w ok => ?_
    refine l_val E ok (y_assign rfl) rfl rfl fun a E => ?_
    refine wpList_nil ?_
    refine t_norm ?_
    refine wp_ret ?_
    refine t_ret ?_
    have hret : verify_fields_R u m0 S ((Uses.mk false false false), false) a w := ⟨m0, [(Value.bool false), (Value.bool false), (Value.bool false)], le_m0, ok.drop.drop, E.d, ⟨rv_c (cs := [(Value.bool false), (Value.bool false), (Value.bool false)]) E ok rfl agg_51 rfl (Holds.own 1 rfl rfl), rv_t E rfl, trivial⟩, rfl⟩
    obtain rfl := Option.some.inj hF
    exact fin _ _ hret
  replace hF := cond_f hc4 hF
  refine wp_skip ?_
  refine t_norm ?_
  refine wp_seq ?_
  refine c_region ?_
  refine l_val E ok (y_move rfl) rfl rfl fun a E => ?_
  obtain ⟨x5, e6, hF⟩ := bnd hF
  replace e6 : idx (Arr14_Uses.list (Arr14_Uses.mk (Uses.mk false false false) (Uses.mk false false true) (Uses.mk false false true) (Uses.mk false false true) (Uses.mk false false true) (Uses.mk true false false) (Uses.mk true false true) (Uses.mk true false true) (Uses.mk true false true) (Uses.mk true false true) (Uses.mk true true false) (Uses.mk true false true) (Uses.mk true false false) (Uses.mk false false false))) op_0 = some x5 := e6
  refine l_val E ok (y_arAt art_69 rfl rfl (idx_range e6).1 (idx_range e6).2) rfl rfl fun a E => ?_
  refine l_val E ok (y_loadAgg (cs := [(Value.bool x5.a), (Value.bool x5.b), (Value.bool x5.s)]) agg_51 rfl rfl (Holds.idxK (k := 3) (xs := Arr14_Uses.list (Arr14_Uses.mk (Uses.mk false false false) (Uses.mk false false true) (Uses.mk false false true) (Uses.mk false false true) (Uses.mk false false true) (Uses.mk true false false) (Uses.mk true false true) (Uses.mk true false true) (Uses.mk true false true) (Uses.mk true false true) (Uses.mk true true false) (Uses.mk true false true) (Uses.mk true false false) (Uses.mk false false false))) (f := (fun x : Uses => [Value.bool x.a, Value.bool x.b, Value.bool x.s])) (fun _ => rfl) (Holds.own 0 rfl rfl) e6)) rfl rfl fun a E => ?_
  refine l_storeB E ok 1 rfl rfl rfl inf_51 rfl rfl ⟨rfl, rfl, rfl, trivial⟩ rfl rfl fun w ok => ?_
  refine l_val E ok (y_assign rfl) rfl rfl fun a E => ?_
  refine wpList_nil ?_
  refine t_norm ?_
  refine wp_ret ?_
  have hret : verify_fields_R u m0 S (x5, true) a w := ⟨m0, [(Value.bool x5.a), (Value.bool x5.b), (Value.bool x5.s)], le_m0, ok.drop.drop, E.d, ⟨rv_c (cs := [(Value.bool x5.a), (Value.bool x5.b), (Value.bool x5.s)]) E ok rfl agg_51 rfl (Holds.own 1 rfl rfl), rv_t E rfl, trivial⟩, rfl⟩
  obtain rfl := Option.some.inj hF
  exact fin _ _ hret

def token_letter_R (u : World) (m0 : Mem) (S : Segs) (r : Bool) (a : Act) (w : World) : Prop :=
  Ok u m0 S w ∧ a.defers = [] ∧ RVs Tryd.prog a w [.t 2 (.bool r)]
set_option maxHeartbeats 4000000 in
set_option maxRecDepth 100000 in
theorem token_letter_w {u : World} {m0 : Mem} {S : Segs} {w : World} (N : Nat) (c_0 : Int) (rc_0 : InR .u8 c_0) {r : Bool} (hF : token_letter N c_0 = some r) (hG : Glob u) (ok : Ok u m0 S w) :
    Calls Tryd.prog 30 [Value.int .u8 c_0].toArray w fun e w' => (e = .returned (.bool r) ∧ Ok u m0 S w') := by
  have hb0 := ok.base
  have le_m0 := Mem.le.refl m0
  unfold token_letter at hF
  have fin : ∀ a w, token_letter_R u m0 S r a w → bodyPost Tryd.prog Tryd.f30 (fun e w' => (e = .returned (.bool r) ∧ Ok u m0 S w')) .ret a w := by
    intro a w h
    obtain ⟨ok, hd, hrv⟩ := h
    exact c_ret2 [.t 2 (.bool r)] hd rfl hrv ⟨rfl, ok⟩
  refine enter Tryd.func30 rfl rfl rfl fun a E => ?_
  refine wp_seq ?_
  refine c_region ?_
  refine l_val E ok (y_assign rfl) rfl rfl fun a E => ?_
  refine wpList_nil ?_
  refine t_norm ?_
  refine wp_seq ?_
  refine c_region ?_
  refine l_val E ok (y_move rfl) rfl rfl fun a E => ?_
  refine l_val E ok (y_geq rfl rfl) rfl rfl fun a E => ?_
  refine l_val E ok (y_move rfl) rfl rfl fun a E => ?_
  refine bsplit (decide (c_0 ≥ 97)) (fun hc1 => ?_) (fun hc1 => ?_)
  rotate_left
  · as_aux_lemma =>
      replace hF := cond_f hc1 hF
      replace E := E.upd 5 hc1 rfl
      iterate 2 refine l_skip E rfl rfl fun a E => ?_
      refine l_val E ok (y_pickF rfl rfl) rfl rfl fun a E => ?_
      refine l_val E ok (y_move rfl) rfl rfl fun a E => ?_
      refine l_val E ok (y_move rfl) rfl rfl fun a E => ?_
      refine l_val E ok (y_geq rfl rfl) rfl rfl fun a E => ?_
      refine l_val E ok (y_move rfl) rfl rfl fun a E => ?_
      refine bsplit (decide (c_0 ≥ 65)) (fun hc7 => ?_) (fun hc7 => ?_)
      rotate_left
      · replace hF := cond_f hc7 hF
        replace E := E.upd 12 hc7 rfl
        iterate 2 refine l_skip E rfl rfl fun a E => ?_
        refine l_val E ok (y_pickF rfl rfl) rfl rfl fun a E => ?_
        refine l_val E ok (y_pickF rfl rfl) rfl rfl fun a E => ?_
        refine l_val E ok (y_move rfl) rfl rfl fun a E => ?_
        refine l_val E ok (y_move rfl) rfl rfl fun a E => ?_
        refine l_val E ok (y_geq rfl rfl) rfl rfl fun a E => ?_
        refine l_val E ok (y_move rfl) rfl rfl fun a E => ?_
        refine bsplit (decide (c_0 ≥ 48)) (fun hc10 => ?_) (fun hc10 => ?_)
        · replace hF := cond_t hc10 hF
          replace E := E.upd 20 hc10 rfl
          refine l_val E ok (y_move rfl) rfl rfl fun a E => ?_
          refine l_val E ok (y_leq rfl rfl) rfl rfl fun a E => ?_
          refine l_val E ok (y_pickT rfl rfl) rfl rfl fun a E => ?_
          refine l_val E ok (y_pickF rfl rfl) rfl rfl fun a E => ?_
          refine l_val E ok (y_assign rfl) rfl rfl fun a E => ?_
          refine wpList_nil ?_
          refine t_norm ?_
          refine wp_ret ?_
          have hret : token_letter_R u m0 S (decide (c_0 ≤ 57)) a w := ⟨ok, E.d, ⟨rv_t E rfl, trivial⟩⟩
          obtain rfl := Option.some.inj hF
          exact fin _ _ hret
        replace hF := cond_f hc10 hF
        replace E := E.upd 20 hc10 rfl
        iterate 2 refine l_skip E rfl rfl fun a E => ?_
        refine l_val E ok (y_pickF rfl rfl) rfl rfl fun a E => ?_
        refine l_val E ok (y_pickF rfl rfl) rfl rfl fun a E => ?_
        refine l_val E ok (y_assign rfl) rfl rfl fun a E => ?_
        refine wpList_nil ?_
        refine t_norm ?_
        refine wp_ret ?_
        have hret : token_letter_R u m0 S false a w := ⟨ok, E.d, ⟨rv_t E rfl, trivial⟩⟩
        obtain rfl := Option.some.inj hF
        exact fin _ _ hret
      replace hF := cond_t hc7 hF
      replace E := E.upd 12 hc7 rfl
      refine l_val E ok (y_move rfl) rfl rfl fun a E => ?_
      refine l_val E ok (y_leq rfl rfl) rfl rfl fun a E => ?_
      refine l_val E ok (y_pickT rfl rfl) rfl rfl fun a E => ?_
      refine l_val E ok (y_pickF rfl rfl) rfl rfl fun a E => ?_
      refine l_val E ok (y_move rfl) rfl rfl fun a E => ?_
      refine bsplit (decide (c_0 ≤ 90)) (fun hc8 => ?_) (fun hc8 => ?_)
      · replace hF := cond_t hc8 hF
        replace E := E.upd 17 hc8 rfl
        iterate 6 refine l_skip E rfl rfl fun a E => ?_
        refine l_val E ok (y_pickT rfl rfl) rfl rfl fun a E => ?_
        refine l_val E ok (y_assign rfl) rfl rfl fun a E => ?_
        refine wpList_nil ?_
        refine t_norm ?_
        refine wp_ret ?_
        have hret : token_letter_R u m0 S true a w := ⟨ok, E.d, ⟨rv_t E rfl, trivial⟩⟩
        obtain rfl := Option.some.inj hF
        exact fin _ _ hret
      replace hF := cond_f hc8 hF
      replace E := E.upd 17 hc8 rfl
      refine l_val E ok (y_move rfl) rfl rfl fun a E => ?_
      refine l_val E ok (y_geq rfl rfl) rfl rfl fun a E => ?_
      refine l_val E ok (y_move rfl) rfl rfl fun a E => ?_
      refine bsplit (decide (c_0 ≥ 48)) (fun hc9 => ?_) (fun hc9 => ?_)
      · replace hF := cond_t hc9 hF
        replace E := E.upd 20 hc9 rfl
        refine l_val E ok (y_move rfl) rfl rfl fun a E => ?_
        refine l_val E ok (y_leq rfl rfl) rfl rfl fun a E => ?_
        refine l_val E ok (y_pickT rfl rfl) rfl rfl fun a E => ?_
        refine l_val E ok (y_pickF rfl rfl) rfl rfl fun a E => ?_
        refine l_val E ok (y_assign rfl) rfl rfl fun a E => ?_
        refine wpList_nil ?_
        refine t_norm ?_
        refine wp_ret ?_
        have hret : token_letter_R u m0 S (decide (c_0 ≤ 57)) a w := ⟨ok, E.d, ⟨rv_t E rfl, trivial⟩⟩
        obtain rfl := Option.some.inj hF
        exact fin _ _ hret
      replace hF := cond_f hc9 hF
      replace E := E.upd 20 hc9 rfl
      iterate 2 refine l_skip E rfl rfl fun a E => ?_
      refine l_val E ok (y_pickF rfl rfl) rfl rfl fun a E => ?_
      refine l_val E ok (y_pickF rfl rfl) rfl rfl fun a E => ?_
      refine l_val E ok (y_assign rfl) rfl rfl fun a E => ?_
      refine wpList_nil ?_
      refine t_norm ?_
      refine wp_ret ?_
      have hret : token_letter_R u m0 S false a w := ⟨ok, E.d, ⟨rv_t E rfl, trivial⟩⟩
      obtain rfl := Option.some.inj hF
      exact fin _ _ hret
  replace hF := cond_t hc1 hF
  replace E := E.upd 5 hc1 rfl
  refine l_val E ok (y_move rfl) rfl rfl fun a E => ?_
  refine l_val E ok (y_leq rfl rfl) rfl rfl fun a E => ?_
  refine l_val E ok (y_pickT rfl rfl) rfl rfl fun a E => ?_
  refine l_val E ok (y_move rfl) rfl rfl fun a E => ?_
  refine bsplit (decide (c_0 ≤ 122)) (fun hc2 => ?_) (fun hc2 => ?_)
  · replace hF := cond_t hc2 hF
    replace E := E.upd 9 hc2 rfl
    iterate 6 refine l_skip E rfl rfl fun a E => ?_
    refine l_val E ok (y_pickT rfl rfl) rfl rfl fun a E => ?_
    refine l_val E ok (y_move rfl) rfl rfl fun a E => ?_
    iterate 6 refine l_skip E rfl rfl fun a E => ?_
    refine l_val E ok (y_pickT rfl rfl) rfl rfl fun a E => ?_
    refine l_val E ok (y_assign rfl) rfl rfl fun a E => ?_
    refine wpList_nil ?_
    refine t_norm ?_
    refine wp_ret ?_
    have hret : token_letter_R u m0 S true a w := ⟨ok, E.d, ⟨rv_t E rfl, trivial⟩⟩
    obtain rfl := Option.some.inj hF
    exact fin _ _ hret
  replace hF := cond_f hc2 hF
  replace E := E.upd 9 hc2 rfl
  refine l_val E ok (y_move rfl) rfl rfl fun a E => ?_
  refine l_val E ok (y_geq rfl rfl) rfl rfl fun a E => ?_
  refine l_val E ok (y_move rfl) rfl rfl fun a E => ?_
  refine bsplit (decide (c_0 ≥ 65)) (fun hc3 => ?_) (fun hc3 => ?_)
  rotate_left
  · replace hF := cond_f hc3 hF
    replace E := E.upd 12 hc3 rfl
    iterate 2 refine l_skip E rfl rfl fun a E => ?_
    refine l_val E ok (y_pickF rfl rfl) rfl rfl fun a E => ?_
    refine l_val E ok (y_pickF rfl rfl) rfl rfl fun a E => ?_
    refine l_val E ok (y_move rfl) rfl rfl fun a E => ?_
    refine l_val E ok (y_move rfl) rfl rfl fun a E => ?_
    refine l_val E ok (y_geq rfl rfl) rfl rfl fun a E => ?_
    refine l_val E ok (y_move rfl) rfl rfl fun a E => ?_
    refine bsplit (decide (c_0 ≥ 48)) (fun hc6 => ?_) (fun hc6 => ?_)
    · replace hF := cond_t hc6 hF
      replace E := E.upd 20 hc6 rfl
      refine l_val E ok (y_move rfl) rfl rfl fun a E => ?_
      refine l_val E ok (y_leq rfl rfl) rfl rfl fun a E => ?_
      refine l_val E ok (y_pickT rfl rfl) rfl rfl fun a E => ?_
      refine l_val E ok (y_pickF rfl rfl) rfl rfl fun a E => ?_
      refine l_val E ok (y_assign rfl) rfl rfl fun a E => ?_
      refine wpList_nil ?_
      refine t_norm ?_
      refine wp_ret ?_
      have hret : token_letter_R u m0 S (decide (c_0 ≤ 57)) a w := ⟨ok, E.d, ⟨rv_t E rfl, trivial⟩⟩
      obtain rfl := Option.some.inj hF
      exact fin _ _ hret
    replace hF := cond_f hc6 hF
    replace E := E.upd 20 hc6 rfl
    iterate 2 refine l_skip E rfl rfl fun a E => ?_
    refine l_val E ok (y_pickF rfl rfl) rfl rfl fun a E => ?_
    refine l_val E ok (y_pickF rfl rfl) rfl rfl fun a E => ?_
    refine l_val E ok (y_assign rfl) rfl rfl fun a E => ?_
    refine wpList_nil ?_
    refine t_norm ?_
    refine wp_ret ?_
    have hret : token_letter_R u m0 S false a w := ⟨ok, E.d, ⟨rv_t E rfl, trivial⟩⟩
    obtain rfl := Option.some.inj hF
    exact fin _ _ hret
  replace hF := cond_t hc3 hF
  replace E := E.upd 12 hc3 rfl
  refine l_val E ok (y_move rfl) rfl rfl fun a E => ?_
  refine l_val E ok (y_leq rfl rfl) rfl rfl fun a E => ?_
  refine l_val E ok (y_pickT rfl rfl) rfl rfl fun a E => ?_
  refine l_val E ok (y_pickF rfl rfl) rfl rfl fun a E => ?_
  refine l_val E ok (y_move rfl) rfl rfl fun a E => ?_
  refine bsplit (decide (c_0 ≤ 90)) (fun hc4 => ?_) (fun hc4 => ?_)
  · replace hF := cond_t hc4 hF
    replace E := E.upd 17 hc4 rfl
    iterate 6 refine l_skip E rfl rfl fun a E => ?_
    refine l_val E ok (y_pickT rfl rfl) rfl rfl fun a E => ?_
    refine l_val E ok (y_assign rfl) rfl rfl fun a E => ?_
    refine wpList_nil ?_
    refine t_norm ?_
    refine wp_ret ?_
    have hret : token_letter_R u m0 S true a w := ⟨ok, E.d, ⟨rv_t E rfl, trivial⟩⟩
    obtain rfl := Option.some.inj hF
    exact fin _ _ hret
  replace hF := cond_f hc4 hF
  replace E := E.upd 17 hc4 rfl
  refine l_val E ok (y_move rfl) rfl rfl fun a E => ?_
  refine l_val E ok (y_geq rfl rfl) rfl rfl fun a E => ?_
  refine l_val E ok (y_move rfl) rfl rfl fun a E => ?_
  refine bsplit (decide (c_0 ≥ 48)) (fun hc5 => ?_) (fun hc5 => ?_)
  · replace hF := cond_t hc5 hF
    replace E := E.upd 20 hc5 rfl
    refine l_val E ok (y_move rfl) rfl rfl fun a E => ?_
    refine l_val E ok (y_leq rfl rfl) rfl rfl fun a E => ?_
    refine l_val E ok (y_pickT rfl rfl) rfl rfl fun a E => ?_
    refine l_val E ok (y_pickF rfl rfl) rfl rfl fun a E => ?_
    refine l_val E ok (y_assign rfl) rfl rfl fun a E => ?_
    refine wpList_nil ?_
    refine t_norm ?_
    refine wp_ret ?_
    have hret : token_letter_R u m0 S (decide (c_0 ≤ 57)) a w := ⟨ok, E.d, ⟨rv_t E rfl, trivial⟩⟩
    obtain rfl := Option.some.inj hF
    exact fin _ _ hret
  replace hF := cond_f hc5 hF
  replace E := E.upd 20 hc5 rfl
  iterate 2 refine l_skip E rfl rfl fun a E => ?_
  refine l_val E ok (y_pickF rfl rfl) rfl rfl fun a E => ?_
  refine l_val E ok (y_pickF rfl rfl) rfl rfl fun a E => ?_
  refine l_val E ok (y_assign rfl) rfl rfl fun a E => ?_
  refine wpList_nil ?_
  refine t_norm ?_
  refine wp_ret ?_
  have hret : token_letter_R u m0 S false a w := ⟨ok, E.d, ⟨rv_t E rfl, trivial⟩⟩
  obtain rfl := Option.some.inj hF
  exact fin _ _ hret

def token_Name_R (u : World) (m0 : Mem) (S : Segs) (r : Bool) (a : Act) (w : World) : Prop :=
  Ok u m0 S w ∧ a.defers = [] ∧ RVs Tryd.prog a w [.t 2 (.bool r)]
set_option maxHeartbeats 4000000 in
set_option maxRecDepth 100000 in
theorem token_Name_w {u : World} {m0 : Mem} {S : Segs} {w : World} (N : Nat) (s_0 : List UInt8) (ls_0 : s_0.length ≤ LIMS) {r : Bool} (hF : token_Name N s_0 = some r) (hG : Glob u) (ok : Ok u m0 S w) :
    Calls Tryd.prog 19 [Value.string (bs s_0)].toArray w fun e w' => (e = .returned (.bool r) ∧ Ok u m0 S w') := by
  have hb0 := ok.base
  have le_m0 := Mem.le.refl m0
  unfold token_Name at hF
  have fin : ∀ a w, token_Name_R u m0 S r a w → bodyPost Tryd.prog Tryd.f19 (fun e w' => (e = .returned (.bool r) ∧ Ok u m0 S w')) .ret a w := by
    intro a w h
    obtain ⟨ok, hd, hrv⟩ := h
    exact c_ret2 [.t 2 (.bool r)] hd rfl hrv ⟨rfl, ok⟩
  refine enter Tryd.func19 rfl rfl rfl fun a E => ?_
  refine wp_seq ?_
  refine c_region ?_
  refine l_val E ok (y_assign rfl) rfl rfl fun a E => ?_
  refine wpList_nil ?_
  refine t_norm ?_
  refine wp_seq ?_
  refine wp_seq ?_
  refine c_region ?_
  refine l_val E ok (y_move rfl) rfl rfl fun a E => ?_
  refine l_val E ok (y_seql rfl rfl) rfl rfl fun a E => ?_
  refine l_val E ok (y_move rfl) rfl rfl fun a E => ?_
  refine bsplit (s_0 == ([])) (fun hc1 => ?_) (fun hc1 => ?_)
  · replace hF := cond_t hc1 hF
    replace E := E.upd 6 hc1 rfl
    iterate 3 refine l_skip E rfl rfl fun a E => ?_
    refine l_val E ok (y_pickT rfl rfl) rfl rfl fun a E => ?_
    refine l_val E ok (y_move rfl) rfl rfl fun a E => ?_
    iterate 3 refine l_skip E rfl rfl fun a E => ?_
    refine l_val E ok (y_pickT rfl rfl) rfl rfl fun a E => ?_
    refine l_val E ok (y_move rfl) rfl rfl fun a E => ?_
    iterate 3 refine l_skip E rfl rfl fun a E => ?_
    refine l_val E ok (y_pickT rfl rfl) rfl rfl fun a E => ?_
    refine wpList_nil ?_
    refine t_norm ?_
    refine c_if E rfl (fun _ => ?_) (fun h => by cases h)
    refine wp_seq ?_
    refine c_region ?_
    refine l_val E ok (y_assign rfl) rfl rfl fun a E => ?_
    refine wpList_nil ?_
    refine t_norm ?_
    refine wp_ret ?_
    refine t_ret ?_
    have hret : token_Name_R u m0 S false a w := ⟨ok, E.d, ⟨rv_t E rfl, trivial⟩⟩
    obtain rfl := Option.some.inj hF
    exact fin _ _ hret
  replace hF := cond_f hc1 hF
  replace E := E.upd 6 hc1 rfl
  refine l_val E ok (y_move rfl) rfl rfl fun a E => ?_
  refine l_val E ok (y_slen Tryd.underlying9 rfl) rfl rfl fun a E => ?_
  refine l_val E ok (y_gtr rfl rfl) rfl rfl fun a E => ?_
  refine l_val E ok (y_pickF rfl rfl) rfl rfl fun a E => ?_
  refine l_val E ok (y_move rfl) rfl rfl fun a E => ?_
  refine bsplit (decide ((s_0.length : Int) > 40)) (fun hc2 => ?_) (fun hc2 => ?_)
  · replace hF := cond_t hc2 hF
    replace E := E.upd 11 hc2 rfl
    iterate 3 refine l_skip E rfl rfl fun a E => ?_
    refine l_val E ok (y_pickT rfl rfl) rfl rfl fun a E => ?_
    refine l_val E ok (y_move rfl) rfl rfl fun a E => ?_
    iterate 3 refine l_skip E rfl rfl fun a E => ?_
    refine l_val E ok (y_pickT rfl rfl) rfl rfl fun a E => ?_
    refine wpList_nil ?_
    refine t_norm ?_
    refine c_if E rfl (fun _ => ?_) (fun h => by cases h)
    refine wp_seq ?_
    refine c_region ?_
    refine l_val E ok (y_assign rfl) rfl rfl fun a E => ?_
    refine wpList_nil ?_
    refine t_norm ?_
    refine wp_ret ?_
    refine t_ret ?_
    have hret : token_Name_R u m0 S false a w := ⟨ok, E.d, ⟨rv_t E rfl, trivial⟩⟩
    obtain rfl := Option.some.inj hF
    exact fin _ _ hret
  replace hF := cond_f hc2 hF
  replace E := E.upd 11 hc2 rfl
  refine l_val E ok (y_move rfl) rfl rfl fun a E => ?_
  obtain ⟨c3, e4, hF⟩ := bnd hF
  refine l_val E ok (y_index Tryd.underlying9 rfl rfl e4) rfl rfl fun a E => ?_
  refine l_val E ok (y_lss rfl rfl) rfl rfl fun a E => ?_
  refine l_val E ok (y_pickF rfl rfl) rfl rfl fun a E => ?_
  refine l_val E ok (y_move rfl) rfl rfl fun a E => ?_
  refine bsplit (decide ((c3.toNat : Int) < 97)) (fun hc5 => ?_) (fun hc5 => ?_)
  · replace hF := cond_t hc5 hF
    replace E := E.upd 16 hc5 rfl
    iterate 3 refine l_skip E rfl rfl fun a E => ?_
    refine l_val E ok (y_pickT rfl rfl) rfl rfl fun a E => ?_
    refine wpList_nil ?_
    refine t_norm ?_
    refine c_if E rfl (fun _ => ?_) (fun h => by cases h)
    refine wp_seq ?_
    refine c_region ?_
    refine l_val E ok (y_assign rfl) rfl rfl fun a E => ?_
    refine wpList_nil ?_
    refine t_norm ?_
    refine wp_ret ?_
    refine t_ret ?_
    have hret : token_Name_R u m0 S false a w := ⟨ok, E.d, ⟨rv_t E rfl, trivial⟩⟩
    obtain rfl := Option.some.inj hF
    exact fin _ _ hret
  replace hF := cond_f hc5 hF
  replace E := E.upd 16 hc5 rfl
  refine l_val E ok (y_move rfl) rfl rfl fun a E => ?_
  obtain ⟨c6, e7, hF⟩ := bnd hF
  refine l_val E ok (y_index Tryd.underlying9 rfl rfl e7) rfl rfl fun a E => ?_
  refine l_val E ok (y_gtr rfl rfl) rfl rfl fun a E => ?_
  refine l_val E ok (y_pickF rfl rfl) rfl rfl fun a E => ?_
  refine wpList_nil ?_
  refine t_norm ?_
  refine c_if E rfl (fun hc8 => ?_) (fun hc8 => ?_)
  · replace hF := cond_t hc8 hF
    refine wp_seq ?_
    refine c_region ?_
    refine l_val E ok (y_assign rfl) rfl rfl fun a E => ?_
    refine wpList_nil ?_
    refine t_norm ?_
    refine wp_ret ?_
    refine t_ret ?_
    have hret : token_Name_R u m0 S false a w := ⟨ok, E.d, ⟨rv_t E rfl, trivial⟩⟩
    obtain rfl := Option.some.inj hF
    exact fin _ _ hret
  replace hF := cond_f hc8 hF
  refine wp_skip ?_
  refine t_norm ?_
  refine wp_seq ?_
  refine wp_seq ?_
  refine c_region ?_
  refine l_val E ok (y_move rfl) rfl rfl fun a E => ?_
  refine l_val E ok (y_slen Tryd.underlying9 rfl) rfl rfl fun a E => ?_
  refine l_val E ok (y_move rfl) rfl rfl fun a E => ?_
  refine wpList_nil ?_
  refine t_norm ?_
  refine wp_block ?_
  obtain ⟨o10, hL, hF⟩ := bnd hF
  refine c_loop _ (fun (s : Int) a w => Ok u m0 (S) w ∧ Env 44 a [(0, (Value.string (bs s_0))), (22, (Value.int .i64 (s_0.length : Int))), (23, (Value.int .i64 s))] ∧ InR .i64 s) (fun (b : (Unit ⊕ Bool)) e a w => (Sum.elim (fun b26 => e = (.exit 0) ∧ Ok u m0 (S) w ∧ Env 44 a []) (fun b27 => e = .ret ∧ token_Name_R u m0 S b27 a w)) b) ?_ ?_ N _ a w hL ⟨ok, E.keep [0, 22, 23], (show InR .i64 (0) by decide)⟩
  rotate_left
  · intro e a w _ hO
    rcases o10 with o10 | o10
    rotate_left
    · replace hF := elim_r hF
      obtain ⟨rfl, hret⟩ := hO
      refine b_ret ?_
      refine t_ret ?_
      obtain rfl := Option.some.inj hF
      exact fin _ _ hret
    replace hF := elim_l hF
    obtain ⟨rfl, ok, E⟩ := hO
    refine b_hit ?_
    refine t_norm ?_
    refine wp_seq ?_
    refine c_region ?_
    refine l_val E ok (y_assign rfl) rfl rfl fun a E => ?_
    refine wpList_nil ?_
    refine t_norm ?_
    refine wp_ret ?_
    have hret : token_Name_R u m0 S true a w := ⟨ok, E.d, ⟨rv_t E rfl, trivial⟩⟩
    obtain rfl := Option.some.inj hF
    exact fin _ _ hret
  rintro x_12 a w r ⟨ok, E, r13⟩ hF
  replace hF : token_Name_b1 N s_0 x_12 = some r := hF
  unfold token_Name_b1 at hF
  refine wp_seq ?_
  refine c_region ?_
  refine l_val E ok (y_lss rfl rfl) rfl rfl fun a E => ?_
  refine wpList_nil ?_
  refine t_norm ?_
  refine wp_seq ?_
  refine c_if E rfl (fun hc14 => ?_) (fun hc14 => ?_)
  rotate_left
  · replace hF := cond_f hc14 hF
    refine wp_exit ?_
    refine t_exit ?_
    obtain rfl := Option.some.inj hF
    exact step_o (by nofun) (sl ⟨rfl, ⟨ok, E.keep []⟩⟩)
  replace hF := cond_t hc14 hF
  refine wp_skip ?_
  refine t_norm ?_
  refine wp_seq ?_
  refine wp_block ?_
  refine wp_seq ?_
  refine c_region ?_
  refine l_val E ok (y_move rfl) rfl rfl fun a E => ?_
  refine l_val E ok (y_assign rfl) rfl rfl fun a E => ?_
  refine wpList_nil ?_
  refine t_norm ?_
  refine wp_seq ?_
  refine c_region ?_
  refine l_val E ok (y_move rfl) rfl rfl fun a E => ?_
  refine l_val E ok (y_move rfl) rfl rfl fun a E => ?_
  obtain ⟨c15, e16, hF⟩ := bnd hF
  refine l_val E ok (y_index Tryd.underlying9 rfl rfl e16) rfl rfl fun a E => ?_
  obtain ⟨r17, e18, hF⟩ := bnd hF
  refine l_call E go_30 rfl (token_letter_w N (c15.toNat : Int) (InR.byte c15) e18 hG ok) rfl rfl ?_
  rintro _ w ⟨rfl, ok⟩
  refine ⟨_, rfl, fun a E => ?_⟩
  refine l_val E ok (y_not rfl) rfl rfl fun a E => ?_
  refine l_val E ok (y_move rfl) rfl rfl fun a E => ?_
  refine bsplit (!r17) (fun hc19 => ?_) (fun hc19 => ?_)
  rotate_left
  · replace hF := cond_f hc19 hF
    replace E := E.upd 31 hc19 rfl
    iterate 4 refine l_skip E rfl rfl fun a E => ?_
    refine l_val E ok (y_pickF rfl rfl) rfl rfl fun a E => ?_
    refine l_val E ok (y_move rfl) rfl rfl fun a E => ?_
    iterate 4 refine l_skip E rfl rfl fun a E => ?_
    refine l_val E ok (y_pickF rfl rfl) rfl rfl fun a E => ?_
    refine wpList_nil ?_
    refine t_norm ?_
    refine c_if E rfl (fun h => by cases h) (fun _ => ?_)
    refine wp_skip ?_
    refine b_norm ?_
    refine t_norm ?_
    refine c_region ?_
    refine l_val E ok (y_add rfl rfl (InR.inc r13 (InR.len ls_0) hc14)) rfl rfl fun a E => ?_
    refine l_val E ok (y_move rfl) rfl rfl fun a E => ?_
    refine wpList_nil ?_
    obtain rfl := Option.some.inj hF
    exact step_n ⟨ok, E.keep [0, 22, 23], (InR.inc r13 (InR.len ls_0) hc14)⟩
  replace hF := cond_t hc19 hF
  replace E := E.upd 31 hc19 rfl
  refine l_val E ok (y_move rfl) rfl rfl fun a E => ?_
  refine l_val E ok (y_move rfl) rfl rfl fun a E => ?_
  obtain ⟨c20, e21, hF⟩ := bnd hF
  refine l_val E ok (y_index Tryd.underlying9 rfl rfl e21) rfl rfl fun a E => ?_
  refine l_val E ok (y_neq rfl rfl) rfl rfl fun a E => ?_
  refine l_val E ok (y_pickT rfl rfl) rfl rfl fun a E => ?_
  refine l_val E ok (y_move rfl) rfl rfl fun a E => ?_
  refine bsplit ((c20.toNat : Int) != 95) (fun hc22 => ?_) (fun hc22 => ?_)
  rotate_left
  · replace hF := cond_f hc22 hF
    replace E := E.upd 37 hc22 rfl
    iterate 4 refine l_skip E rfl rfl fun a E => ?_
    refine l_val E ok (y_pickF rfl rfl) rfl rfl fun a E => ?_
    refine wpList_nil ?_
    refine t_norm ?_
    refine c_if E rfl (fun h => by cases h) (fun _ => ?_)
    refine wp_skip ?_
    refine b_norm ?_
    refine t_norm ?_
    refine c_region ?_
    refine l_val E ok (y_add rfl rfl (InR.inc r13 (InR.len ls_0) hc14)) rfl rfl fun a E => ?_
    refine l_val E ok (y_move rfl) rfl rfl fun a E => ?_
    refine wpList_nil ?_
    obtain rfl := Option.some.inj hF
    exact step_n ⟨ok, E.keep [0, 22, 23], (InR.inc r13 (InR.len ls_0) hc14)⟩
  replace hF := cond_t hc22 hF
  replace E := E.upd 37 hc22 rfl
  refine l_val E ok (y_move rfl) rfl rfl fun a E => ?_
  refine l_val E ok (y_move rfl) rfl rfl fun a E => ?_
  obtain ⟨c23, e24, hF⟩ := bnd hF
  refine l_val E ok (y_index Tryd.underlying9 rfl rfl e24) rfl rfl fun a E => ?_
  refine l_val E ok (y_neq rfl rfl) rfl rfl fun a E => ?_
  refine l_val E ok (y_pickT rfl rfl) rfl rfl fun a E => ?_
  refine wpList_nil ?_
  refine t_norm ?_
  refine c_if E rfl (fun hc25 => ?_) (fun hc25 => ?_)
  rotate_left
  · replace hF := cond_f hc25 hF
    refine wp_skip ?_
    refine b_norm ?_
    refine t_norm ?_
    refine c_region ?_
    refine l_val E ok (y_add rfl rfl (InR.inc r13 (InR.len ls_0) hc14)) rfl rfl fun a E => ?_
    refine l_val E ok (y_move rfl) rfl rfl fun a E => ?_
    refine wpList_nil ?_
    obtain rfl := Option.some.inj hF
    exact step_n ⟨ok, E.keep [0, 22, 23], (InR.inc r13 (InR.len ls_0) hc14)⟩
  replace hF := cond_t hc25 hF
  refine wp_seq ?_
  refine c_region ?_
  refine l_val E ok (y_assign rfl) rfl rfl fun a E => ?_
  refine wpList_nil ?_
  refine t_norm ?_
  refine wp_ret ?_
  refine b_ret ?_
  refine t_ret ?_
  have hret : token_Name_R u m0 S false a w := ⟨ok, E.d, ⟨rv_t E rfl, trivial⟩⟩
  obtain rfl := Option.some.inj hF
  exact step_o (by nofun) (sr ⟨rfl, hret⟩)

def verify_skeleton_R (u : World) (m0 : Mem) (S : Segs) (r : Bool) (a : Act) (w : World) : Prop :=
  Ok u m0 S w ∧ a.defers = [] ∧ RVs Tryd.prog a w [.t 2 (.bool r)]
set_option maxHeartbeats 4000000 in
set_option maxRecDepth 100000 in
theorem verify_skeleton_w {u : World} {m0 : Mem} {S : Segs} {w : World} (N : Nat) (s_0 : List UInt8) (ls_0 : s_0.length ≤ LIMS) {r : Bool} (hF : verify_skeleton N s_0 = some r) (hG : Glob u) (ok : Ok u m0 S w) :
    Calls Tryd.prog 20 [Value.string (bs s_0)].toArray w fun e w' => (e = .returned (.bool r) ∧ Ok u m0 S w') := by
  have hb0 := ok.base
  have le_m0 := Mem.le.refl m0
  unfold verify_skeleton at hF
  have fin : ∀ a w, verify_skeleton_R u m0 S r a w → bodyPost Tryd.prog Tryd.f20 (fun e w' => (e = .returned (.bool r) ∧ Ok u m0 S w')) .ret a w := by
    intro a w h
    obtain ⟨ok, hd, hrv⟩ := h
    exact c_ret2 [.t 2 (.bool r)] hd rfl hrv ⟨rfl, ok⟩
  refine enter Tryd.func20 rfl rfl rfl fun a E => ?_
  refine wp_seq ?_
  refine c_region ?_
  refine l_val E ok (y_assign rfl) rfl rfl fun a E => ?_
  refine wpList_nil ?_
  refine t_norm ?_
  refine wp_seq ?_
  refine wp_seq ?_
  refine c_region ?_
  refine l_val E ok (y_move rfl) rfl rfl fun a E => ?_
  refine l_val E ok (y_slen Tryd.underlying9 rfl) rfl rfl fun a E => ?_
  refine l_val E ok (y_move rfl) rfl rfl fun a E => ?_
  refine wpList_nil ?_
  refine t_norm ?_
  refine wp_block ?_
  obtain ⟨o2, hL, hF⟩ := bnd hF
  refine c_loop _ (fun (s : Int) a w => Ok u m0 (S) w ∧ Env 28 a [(0, (Value.string (bs s_0))), (6, (Value.int .i64 (s_0.length : Int))), (7, (Value.int .i64 s))] ∧ InR .i64 s) (fun (b : (Unit ⊕ Bool)) e a w => (Sum.elim (fun b12 => e = (.exit 0) ∧ Ok u m0 (S) w ∧ Env 28 a [(0, (Value.string (bs s_0)))]) (fun b13 => e = .ret ∧ verify_skeleton_R u m0 S b13 a w)) b) ?_ ?_ N _ a w hL ⟨ok, E.keep [0, 6, 7], (show InR .i64 (0) by decide)⟩
  rotate_left
  · intro e a w _ hO
    rcases o2 with o2 | o2
    rotate_left
    · replace hF := elim_r hF
      obtain ⟨rfl, hret⟩ := hO
      refine b_ret ?_
      refine t_ret ?_
      obtain rfl := Option.some.inj hF
      exact fin _ _ hret
    replace hF := elim_l hF
    obtain ⟨rfl, ok, E⟩ := hO
    refine b_hit ?_
    refine t_norm ?_
    refine wp_seq ?_
    refine c_region ?_
    refine l_val E ok (y_move rfl) rfl rfl fun a E => ?_
    refine l_val E ok (y_sneq rfl rfl) rfl rfl fun a E => ?_
    refine l_val E ok (y_move rfl) rfl rfl fun a E => ?_
    refine bsplit (s_0 != ([])) (fun hc11 => ?_) (fun hc11 => ?_)
    · replace hF := cond_t hc11 hF
      replace E := E.upd 23 hc11 rfl
      refine l_val E ok (y_move rfl) rfl rfl fun a E => ?_
      refine l_val E ok (y_slen Tryd.underlying9 rfl) rfl rfl fun a E => ?_
      refine l_val E ok (y_leq rfl rfl) rfl rfl fun a E => ?_
      refine l_val E ok (y_pickT rfl rfl) rfl rfl fun a E => ?_
      refine l_val E ok (y_assign rfl) rfl rfl fun a E => ?_
      refine wpList_nil ?_
      refine t_norm ?_
      refine wp_ret ?_
      have hret : verify_skeleton_R u m0 S (decide ((s_0.length : Int) ≤ 40)) a w := ⟨ok, E.d, ⟨rv_t E rfl, trivial⟩⟩
      obtain rfl := Option.some.inj hF
      exact fin _ _ hret
    replace hF := cond_f hc11 hF
    replace E := E.upd 23 hc11 rfl
    iterate 3 refine l_skip E rfl rfl fun a E => ?_
    refine l_val E ok (y_pickF rfl rfl) rfl rfl fun a E => ?_
    refine l_val E ok (y_assign rfl) rfl rfl fun a E => ?_
    refine wpList_nil ?_
    refine t_norm ?_
    refine wp_ret ?_
    have hret : verify_skeleton_R u m0 S false a w := ⟨ok, E.d, ⟨rv_t E rfl, trivial⟩⟩
    obtain rfl := Option.some.inj hF
    exact fin _ _ hret
  rintro x_4 a w r ⟨ok, E, r5⟩ hF
  replace hF : verify_skeleton_b1 N s_0 x_4 = some r := hF
  unfold verify_skeleton_b1 at hF
  refine wp_seq ?_
  refine c_region ?_
  refine l_val E ok (y_lss rfl rfl) rfl rfl fun a E => ?_
  refine wpList_nil ?_
  refine t_norm ?_
  refine wp_seq ?_
  refine c_if E rfl (fun hc6 => ?_) (fun hc6 => ?_)
  rotate_left
  · replace hF := cond_f hc6 hF
    refine wp_exit ?_
    refine t_exit ?_
    obtain rfl := Option.some.inj hF
    exact step_o (by nofun) (sl ⟨rfl, ⟨ok, E.keep [0]⟩⟩)
  replace hF := cond_t hc6 hF
  refine wp_skip ?_
  refine t_norm ?_
  refine wp_seq ?_
  refine wp_block ?_
  refine wp_seq ?_
  refine c_region ?_
  refine l_val E ok (y_move rfl) rfl rfl fun a E => ?_
  refine l_val E ok (y_assign rfl) rfl rfl fun a E => ?_
  refine wpList_nil ?_
  refine t_norm ?_
  refine wp_seq ?_
  refine c_region ?_
  refine l_val E ok (y_move rfl) rfl rfl fun a E => ?_
  refine l_val E ok (y_move rfl) rfl rfl fun a E => ?_
  obtain ⟨c7, e8, hF⟩ := bnd hF
  refine l_val E ok (y_index Tryd.underlying9 rfl rfl e8) rfl rfl fun a E => ?_
  refine l_val E ok (y_bits .or (by decide) rfl rfl) rfl rfl fun a E => ?_
  refine l_val E ok (y_assign rfl) rfl rfl fun a E => ?_
  refine wpList_nil ?_
  refine t_norm ?_
  refine wp_seq ?_
  refine c_region ?_
  refine l_val E ok (y_move rfl) rfl rfl fun a E => ?_
  refine l_val E ok (y_lss rfl rfl) rfl rfl fun a E => ?_
  refine l_val E ok (y_move rfl) rfl rfl fun a E => ?_
  refine bsplit (decide ((ibits .or .u8 (c7.toNat : Int) 32) < 97)) (fun hc9 => ?_) (fun hc9 => ?_)
  · replace hF := cond_t hc9 hF
    replace E := E.upd 16 hc9 rfl
    iterate 2 refine l_skip E rfl rfl fun a E => ?_
    refine l_val E ok (y_pickT rfl rfl) rfl rfl fun a E => ?_
    refine wpList_nil ?_
    refine t_norm ?_
    refine c_if E rfl (fun _ => ?_) (fun h => by cases h)
    refine wp_seq ?_
    refine c_region ?_
    refine l_val E ok (y_assign rfl) rfl rfl fun a E => ?_
    refine wpList_nil ?_
    refine t_norm ?_
    refine wp_ret ?_
    refine b_ret ?_
    refine t_ret ?_
    have hret : verify_skeleton_R u m0 S false a w := ⟨ok, E.d, ⟨rv_t E rfl, trivial⟩⟩
    obtain rfl := Option.some.inj hF
    exact step_o (by nofun) (sr ⟨rfl, hret⟩)
  replace hF := cond_f hc9 hF
  replace E := E.upd 16 hc9 rfl
  refine l_val E ok (y_move rfl) rfl rfl fun a E => ?_
  refine l_val E ok (y_gtr rfl rfl) rfl rfl fun a E => ?_
  refine l_val E ok (y_pickF rfl rfl) rfl rfl fun a E => ?_
  refine wpList_nil ?_
  refine t_norm ?_
  refine c_if E rfl (fun hc10 => ?_) (fun hc10 => ?_)
  rotate_left
  · replace hF := cond_f hc10 hF
    refine wp_skip ?_
    refine b_norm ?_
    refine t_norm ?_
    refine c_region ?_
    refine l_val E ok (y_add rfl rfl (InR.inc r5 (InR.len ls_0) hc6)) rfl rfl fun a E => ?_
    refine l_val E ok (y_move rfl) rfl rfl fun a E => ?_
    refine wpList_nil ?_
    obtain rfl := Option.some.inj hF
    exact step_n ⟨ok, E.keep [0, 6, 7], (InR.inc r5 (InR.len ls_0) hc6)⟩
  replace hF := cond_t hc10 hF
  refine wp_seq ?_
  refine c_region ?_
  refine l_val E ok (y_assign rfl) rfl rfl fun a E => ?_
  refine wpList_nil ?_
  refine t_norm ?_
  refine wp_ret ?_
  refine b_ret ?_
  refine t_ret ?_
  have hret : verify_skeleton_R u m0 S false a w := ⟨ok, E.d, ⟨rv_t E rfl, trivial⟩⟩
  obtain rfl := Option.some.inj hF
  exact step_o (by nofun) (sr ⟨rfl, hret⟩)

def verify_cases_R (u : World) (m0 : Mem) (S : Segs) (r : (List (Ins))) (a : Act) (w : World) : Prop :=
  ∃ m1 v0, m0.le m1 ∧ Ok u m1 S w ∧ a.defers = [] ∧ RVs Tryd.prog a w [.t 4 v0] ∧ (pL 4 pIns) m1 [v0] r
set_option maxHeartbeats 4000000 in
set_option maxRecDepth 100000 in
theorem verify_cases_w {u : World} {m0 : Mem} {S : Segs} {w : World} (N : Nat) (vc_0 : List Value) (c_0 : Code) (hc_0 : pCode m0 vc_0 c_0) (i_1 : Int) (ri_1 : InR .i64 i_1) {r : (List (Ins))} (hF : verify_cases N c_0 i_1 = some r) (hG : Glob u) (ok : Ok u m0 S w) :
    Calls Tryd.prog 31 [.agg vc_0.toArray, Value.int .i64 i_1].toArray w fun e w' => ∃ m1 v0, e = .returned v0 ∧ m0.le m1 ∧ Ok u m1 S w' ∧ (pL 4 pIns) m1 [v0] r := by
  obtain ⟨c1, c3, rfl, h2, h4⟩ := hc_0
  have le_m0 := Mem.le.refl m0
  unfold verify_cases at hF
  have fin : ∀ a w, verify_cases_R u m0 S r a w → bodyPost Tryd.prog Tryd.f31 (fun e w' => ∃ m1 v0, e = .returned v0 ∧ m0.le m1 ∧ Ok u m1 S w' ∧ (pL 4 pIns) m1 [v0] r) .ret a w := by
    intro a w h
    obtain ⟨m1, v0, hle, ok, hd, hrv, h0⟩ := h
    exact c_ret2 [.t 4 v0] hd rfl hrv ⟨m1, v0, rfl, hle, ok, h0⟩
  refine enter Tryd.func31 rfl rfl rfl fun a E => ?_
  refine wp_seq ?_
  refine c_region ?_
  refine l_box E ok rfl rfl rfl fun b5 a w E ok => ?_
  refine l_val E ok (y_assign rfl) rfl rfl fun a E => ?_
  refine wpList_nil ?_
  refine t_norm ?_
  refine wp_seq ?_
  refine c_region ?_
  refine l_val E ok (y_move rfl) rfl rfl fun a E => ?_
  refine l_val E ok (y_addw rfl rfl) rfl rfl fun a E => ?_
  refine l_val E ok (y_assign rfl) rfl rfl fun a E => ?_
  refine wpList_nil ?_
  refine t_norm ?_
  refine wp_seq ?_
  refine wp_block ?_
  obtain ⟨o7, hL, hF⟩ := bnd hF
  refine c_loop _ (fun (s : Int) a w => Ok u m0 ([(b5, Obj.cells [c1, c3].toArray 31 (0, 0))] :: S) w ∧ Env 30 a [(1, (Value.int .i64 i_1)), (2, (Value.pointer (some ⟨b5, 0, none⟩))), (5, (Value.int .i64 s))] ∧ InR .i64 s) (fun (b : Int) e a w => e = (.exit 0) ∧ Ok u m0 ([(b5, Obj.cells [c1, c3].toArray 31 (0, 0))] :: S) w ∧ Env 30 a [(1, (Value.int .i64 i_1)), (2, (Value.pointer (some ⟨b5, 0, none⟩))), (5, (Value.int .i64 b))] ∧ InR .i64 b) ?_ ?_ N _ a w hL ⟨ok, E.keep [1, 2, 5], (InR.wrap _ _)⟩
  rotate_left
  · intro e a w _ hO
    obtain ⟨rfl, ok, E, r26⟩ := hO
    refine b_hit ?_
    refine t_norm ?_
    refine wp_seq ?_
    refine c_region ?_
    refine l_val E ok (y_fieldAddr fo_31_1 rfl) rfl rfl fun a E => ?_
    refine l_val E ok (y_load one_29 rfl (Holds.own 0 rfl rfl)) rfl rfl fun a E => ?_
    refine l_val E ok (y_move rfl) rfl rfl fun a E => ?_
    refine l_val E ok (y_addw rfl rfl) rfl rfl fun a E => ?_
    refine l_val E ok (y_move rfl) rfl rfl fun a E => ?_
    obtain ⟨l27, e28, hF⟩ := bnd hF
    obtain ⟨c29, h30, yy31⟩ := pL_slice sl_29 h4 e28 (P := Tryd.prog) (X := .tmp 25) (lov := (some (.tmp 27))) (hiv := (some (.tmp 28))) (ev_of E rfl) (sb_of E ⟨_, rfl⟩) (sb_of E ⟨_, rfl⟩)
    refine l_val E ok (yy31 _ _) rfl rfl fun a E => ?_
    refine l_val E ok (y_assign rfl) rfl rfl fun a E => ?_
    refine wpList_nil ?_
    refine t_norm ?_
    refine wp_ret ?_
    have hret : verify_cases_R u m0 S l27 a w := ⟨m0, c29, le_m0, ok.drop, E.d, ⟨rv_t E rfl, trivial⟩, h30⟩
    obtain rfl := Option.some.inj hF
    exact fin _ _ hret
  rintro k_9 a w r ⟨ok, E, r10⟩ hF
  replace hF : verify_cases_b1 N c_0 k_9 = some r := hF
  unfold verify_cases_b1 at hF
  refine wp_seq ?_
  refine wp_seq ?_
  refine c_region ?_
  refine l_val E ok (y_move rfl) rfl rfl fun a E => ?_
  refine l_val E ok (y_fieldAddr fo_31_1 rfl) rfl rfl fun a E => ?_
  refine l_val E ok (y_load one_29 rfl (Holds.own 0 rfl rfl)) rfl rfl fun a E => ?_
  refine l_val E ok (y_lenL sl_29 h4 rfl) rfl rfl fun a E => ?_
  refine l_val E ok (y_lss rfl rfl) rfl rfl fun a E => ?_
  refine l_val E ok (y_move rfl) rfl rfl fun a E => ?_
  refine bsplit (decide (k_9 < (c_0.Ins.length : Int))) (fun hc11 => ?_) (fun hc11 => ?_)
  rotate_left
  · replace hF := cond_f hc11 hF
    replace E := E.upd 13 hc11 rfl
    iterate 7 refine l_skip E rfl rfl fun a E => ?_
    refine l_val E ok (y_pickF rfl rfl) rfl rfl fun a E => ?_
    refine wpList_nil ?_
    refine t_norm ?_
    refine c_if E rfl (fun h => by cases h) (fun _ => ?_)
    refine wp_exit ?_
    refine t_exit ?_
    obtain rfl := Option.some.inj hF
    exact step_o (by nofun) (⟨rfl, ⟨ok, E.keep [1, 2, 5], r10⟩⟩)
  replace hF := cond_t hc11 hF
  replace E := E.upd 13 hc11 rfl
  refine l_val E ok (y_fieldAddr fo_31_1 rfl) rfl rfl fun a E => ?_
  refine l_val E ok (y_load one_29 rfl (Holds.own 0 rfl rfl)) rfl rfl fun a E => ?_
  refine l_val E ok (y_move rfl) rfl rfl fun a E => ?_
  obtain ⟨x12, e13, hF⟩ := bnd hF
  obtain ⟨b14, o15, es16, hl17, rr18, at19, yy20⟩ := idxAt sl_29 h4 e13 (P := Tryd.prog) (X := .tmp 15) (I := .tmp 16) (kd := .i64) (ev_of E rfl) (ev_of E rfl)
  obtain ⟨rfl, r21, r22, r23, l24⟩ := rr18
  refine l_val E ok (yy20 _ _) rfl rfl fun a E => ?_
  refine l_val E ok (y_fieldAddr fo_41_0 rfl) rfl rfl fun a E => ?_
  refine l_val E ok (y_load one_3 rfl (Holds.ro (At.sub 0 1 at19))) rfl rfl fun a E => ?_
  refine l_val E ok (y_eql rfl rfl) rfl rfl fun a E => ?_
  refine l_val E ok (y_pickT rfl rfl) rfl rfl fun a E => ?_
  refine wpList_nil ?_
  refine t_norm ?_
  refine c_if E rfl (fun hc25 => ?_) (fun hc25 => ?_)
  rotate_left
  · replace hF := cond_f hc25 hF
    refine wp_exit ?_
    refine t_exit ?_
    obtain rfl := Option.some.inj hF
    exact step_o (by nofun) (⟨rfl, ⟨ok, E.keep [1, 2, 5], r10⟩⟩)
  replace hF := cond_t hc25 hF
  refine wp_skip ?_
  refine t_norm ?_
  refine wp_block ?_
  refine c_region ?_
  refine l_val E ok (y_move rfl) rfl rfl fun a E => ?_
  refine l_val E ok (y_add rfl rfl (InR.inc r10 (pL_InR h4) hc11)) rfl rfl fun a E => ?_
  refine l_val E ok (y_assign rfl) rfl rfl fun a E => ?_
  refine wpList_nil ?_
  refine b_norm ?_
  obtain rfl := Option.some.inj hF
  exact step_n ⟨ok, E.keep [1, 2, 5], (InR.inc r10 (pL_InR h4) hc11)⟩

theorem strings_CutPrefix_w {u : World} {m0 : Mem} {S : Segs} {w : World} (N : Nat) (p0_0 : List UInt8) (lp0_0 : p0_0.length ≤ LIMS) (p1_1 : List UInt8) (lp1_1 : p1_1.length ≤ LIMS) {r : (List UInt8) × Bool} (hF : strings_CutPrefix N p0_0 p1_1 = some r) (hG : Glob u) (ok : Ok u m0 S w) :
    Calls Tryd.prog 41 [Value.string (bs p0_0), Value.string (bs p1_1)].toArray w fun e w' => (e = .returned (.tuple [(.string (bs r.1)), (.bool r.2)].toArray) ∧ Ok u m0 S w') ∧ r.1.length ≤ LIMS := lib_CutPrefix Tryd.lays103 p0_0 p1_1 hF lp0_0 ok

def slices_Index_string_string_R (u : World) (m0 : Mem) (S : Segs) (r : Int) (a : Act) (w : World) : Prop :=
  Ok u m0 S w ∧ a.defers = [] ∧ RVs Tryd.prog a w [.t 4 (.int .i64 r)] ∧ InR .i64 r
set_option maxHeartbeats 4000000 in
set_option maxRecDepth 100000 in
theorem slices_Index_string_string_w {u : World} {m0 : Mem} {S : Segs} {w : World} (N : Nat) (vs_0 : Value) (s_0 : List (List UInt8)) (hs_0 : (pL 1 pS) m0 [vs_0] s_0) (v_1 : List UInt8) (lv_1 : v_1.length ≤ LIMS) {r : Int} (hF : slices_Index_string_string N s_0 v_1 = some r) (hG : Glob u) (ok : Ok u m0 S w) :
    Calls Tryd.prog 54 [vs_0, Value.string (bs v_1)].toArray w fun e w' => (e = .returned (.int .i64 r) ∧ Ok u m0 S w') ∧ InR .i64 r := by
  have hb0 := ok.base
  have le_m0 := Mem.le.refl m0
  unfold slices_Index_string_string at hF
  have fin : ∀ a w, slices_Index_string_string_R u m0 S r a w → bodyPost Tryd.prog Tryd.f54 (fun e w' => (e = .returned (.int .i64 r) ∧ Ok u m0 S w') ∧ InR .i64 r) .ret a w := by
    intro a w h
    obtain ⟨ok, hd, hrv, h0⟩ := h
    exact c_ret2 [.t 4 (.int .i64 r)] hd rfl hrv ⟨⟨rfl, ok⟩, h0⟩
  refine enter Tryd.func54 rfl rfl rfl fun a E => ?_
  refine wp_seq ?_
  refine c_region ?_
  refine l_val E ok (y_assign rfl) rfl rfl fun a E => ?_
  refine wpList_nil ?_
  refine t_norm ?_
  refine wp_seq ?_
  refine wp_seq ?_
  refine c_region ?_
  refine l_val E ok (y_move rfl) rfl rfl fun a E => ?_
  refine l_val E ok (y_lenL sl_22 hs_0 rfl) rfl rfl fun a E => ?_
  refine l_val E ok (y_move rfl) rfl rfl fun a E => ?_
  refine wpList_nil ?_
  refine t_norm ?_
  refine wp_block ?_
  obtain ⟨o2, hL, hF⟩ := bnd hF
  refine c_loop _ (fun (s : Int) a w => Ok u m0 (S) w ∧ Env 19 a [(0, vs_0), (1, (Value.string (bs v_1))), (7, (Value.int .i64 (s_0.length : Int))), (8, (Value.int .i64 s))] ∧ InR .i64 s) (fun (b : (Unit ⊕ Int)) e a w => (Sum.elim (fun b18 => e = (.exit 0) ∧ Ok u m0 (S) w ∧ Env 19 a []) (fun b19 => e = .ret ∧ slices_Index_string_string_R u m0 S b19 a w)) b) ?_ ?_ N _ a w hL ⟨ok, E.keep [0, 1, 7, 8], (show InR .i64 (0) by decide)⟩
  rotate_left
  · intro e a w _ hO
    rcases o2 with o2 | o2
    rotate_left
    · replace hF := elim_r hF
      obtain ⟨rfl, hret⟩ := hO
      refine b_ret ?_
      refine t_ret ?_
      obtain rfl := Option.some.inj hF
      exact fin _ _ hret
    replace hF := elim_l hF
    obtain ⟨rfl, ok, E⟩ := hO
    refine b_hit ?_
    refine t_norm ?_
    refine wp_seq ?_
    refine c_region ?_
    refine l_val E ok (y_assign rfl) rfl rfl fun a E => ?_
    refine wpList_nil ?_
    refine t_norm ?_
    refine wp_ret ?_
    have hret : slices_Index_string_string_R u m0 S (-1) a w := ⟨ok, E.d, ⟨rv_t E rfl, trivial⟩, (show InR .i64 (-1) by decide)⟩
    obtain rfl := Option.some.inj hF
    exact fin _ _ hret
  rintro x_4 a w r ⟨ok, E, r5⟩ hF
  replace hF : slices_Index_string_string_b1 N s_0 v_1 x_4 = some r := hF
  unfold slices_Index_string_string_b1 at hF
  refine wp_seq ?_
  refine c_region ?_
  refine l_val E ok (y_lss rfl rfl) rfl rfl fun a E => ?_
  refine wpList_nil ?_
  refine t_norm ?_
  refine wp_seq ?_
  refine c_if E rfl (fun hc6 => ?_) (fun hc6 => ?_)
  rotate_left
  · replace hF := cond_f hc6 hF
    refine wp_exit ?_
    refine t_exit ?_
    obtain rfl := Option.some.inj hF
    exact step_o (by nofun) (sl ⟨rfl, ⟨ok, E.keep []⟩⟩)
  replace hF := cond_t hc6 hF
  refine wp_skip ?_
  refine t_norm ?_
  refine wp_seq ?_
  refine wp_block ?_
  refine wp_seq ?_
  refine c_region ?_
  refine l_val E ok (y_move rfl) rfl rfl fun a E => ?_
  refine l_val E ok (y_assign rfl) rfl rfl fun a E => ?_
  refine wpList_nil ?_
  refine t_norm ?_
  refine wp_seq ?_
  refine c_region ?_
  refine l_val E ok (y_move rfl) rfl rfl fun a E => ?_
  refine l_val E ok (y_move rfl) rfl rfl fun a E => ?_
  refine l_val E ok (y_move rfl) rfl rfl fun a E => ?_
  obtain ⟨x7, e8, hF⟩ := bnd hF
  obtain ⟨b9, o10, es11, hl12, rr13, at14, yy15⟩ := idxAt sl_22 hs_0 e8 (P := Tryd.prog) (X := .tmp 12) (I := .tmp 13) (kd := .i64) (ev_of E rfl) (ev_of E rfl)
  obtain ⟨rfl, l16⟩ := rr13
  refine l_val E ok (yy15 _ _) rfl rfl fun a E => ?_
  refine l_val E ok (y_load one_9 rfl (Holds.ro at14)) rfl rfl fun a E => ?_
  refine l_val E ok (y_seql rfl rfl) rfl rfl fun a E => ?_
  refine wpList_nil ?_
  refine t_norm ?_
  refine c_if E rfl (fun hc17 => ?_) (fun hc17 => ?_)
  rotate_left
  · replace hF := cond_f hc17 hF
    refine wp_skip ?_
    refine b_norm ?_
    refine t_norm ?_
    refine c_region ?_
    refine l_val E ok (y_add rfl rfl (InR.inc r5 (pL_InR hs_0) hc6)) rfl rfl fun a E => ?_
    refine l_val E ok (y_move rfl) rfl rfl fun a E => ?_
    refine wpList_nil ?_
    obtain rfl := Option.some.inj hF
    exact step_n ⟨ok, E.keep [0, 1, 7, 8], (InR.inc r5 (pL_InR hs_0) hc6)⟩
  replace hF := cond_t hc17 hF
  refine wp_seq ?_
  refine c_region ?_
  refine l_val E ok (y_move rfl) rfl rfl fun a E => ?_
  refine l_val E ok (y_assign rfl) rfl rfl fun a E => ?_
  refine wpList_nil ?_
  refine t_norm ?_
  refine wp_ret ?_
  refine b_ret ?_
  refine t_ret ?_
  have hret : slices_Index_string_string_R u m0 S x_4 a w := ⟨ok, E.d, ⟨rv_t E rfl, trivial⟩, r5⟩
  obtain rfl := Option.some.inj hF
  exact step_o (by nofun) (sr ⟨rfl, hret⟩)

def slices_Contains_string_string_R (u : World) (m0 : Mem) (S : Segs) (r : Bool) (a : Act) (w : World) : Prop :=
  Ok u m0 S w ∧ a.defers = [] ∧ RVs Tryd.prog a w [.t 4 (.bool r)]
set_option maxHeartbeats 4000000 in
set_option maxRecDepth 100000 in
theorem slices_Contains_string_string_w {u : World} {m0 : Mem} {S : Segs} {w : World} (N : Nat) (vs_0 : Value) (s_0 : List (List UInt8)) (hs_0 : (pL 1 pS) m0 [vs_0] s_0) (v_1 : List UInt8) (lv_1 : v_1.length ≤ LIMS) {r : Bool} (hF : slices_Contains_string_string N s_0 v_1 = some r) (hG : Glob u) (ok : Ok u m0 S w) :
    Calls Tryd.prog 49 [vs_0, Value.string (bs v_1)].toArray w fun e w' => (e = .returned (.bool r) ∧ Ok u m0 S w') := by
  have hb0 := ok.base
  have le_m0 := Mem.le.refl m0
  unfold slices_Contains_string_string at hF
  have fin : ∀ a w, slices_Contains_string_string_R u m0 S r a w → bodyPost Tryd.prog Tryd.f49 (fun e w' => (e = .returned (.bool r) ∧ Ok u m0 S w')) .ret a w := by
    intro a w h
    obtain ⟨ok, hd, hrv⟩ := h
    exact c_ret2 [.t 4 (.bool r)] hd rfl hrv ⟨rfl, ok⟩
  refine enter Tryd.func49 rfl rfl rfl fun a E => ?_
  refine wp_seq ?_
  refine c_region ?_
  refine l_val E ok (y_assign rfl) rfl rfl fun a E => ?_
  refine wpList_nil ?_
  refine t_norm ?_
  refine wp_seq ?_
  refine c_region ?_
  refine l_val E ok (y_move rfl) rfl rfl fun a E => ?_
  refine l_val E ok (y_move rfl) rfl rfl fun a E => ?_
  obtain ⟨r1, e2, hF⟩ := bnd hF
  refine l_call E go_54 rfl (slices_Index_string_string_w N _ s_0 hs_0 v_1 lv_1 e2 hG ok) rfl rfl ?_
  rintro _ w ⟨⟨rfl, ok⟩, r3⟩
  refine ⟨_, rfl, fun a E => ?_⟩
  refine l_val E ok (y_geq rfl rfl) rfl rfl fun a E => ?_
  refine l_val E ok (y_assign rfl) rfl rfl fun a E => ?_
  refine wpList_nil ?_
  refine t_norm ?_
  refine wp_ret ?_
  have hret : slices_Contains_string_string_R u m0 S (decide (r1 ≥ 0)) a w := ⟨ok, E.d, ⟨rv_t E rfl, trivial⟩⟩
  obtain rfl := Option.some.inj hF
  exact fin _ _ hret

def verify_class_R (u : World) (m0 : Mem) (S : Segs) (r : Bool) (a : Act) (w : World) : Prop :=
  Ok u m0 S w ∧ a.defers = [] ∧ RVs Tryd.prog a w [.t 2 (.bool r)]
set_option maxHeartbeats 4000000 in
set_option maxRecDepth 100000 in
theorem verify_class_w {u : World} {m0 : Mem} {S : Segs} {w : World} (N : Nat) (s_0 : List UInt8) (ls_0 : s_0.length ≤ LIMS) {r : Bool} (hF : verify_class N s_0 = some r) (hG : Glob u) (ok : Ok u m0 S w) :
    Calls Tryd.prog 42 [Value.string (bs s_0)].toArray w fun e w' => (e = .returned (.bool r) ∧ Ok u m0 S w') := by
  have hb0 := ok.base
  have le_m0 := Mem.le.refl m0
  unfold verify_class at hF
  have fin : ∀ a w, verify_class_R u m0 S r a w → bodyPost Tryd.prog Tryd.f42 (fun e w' => (e = .returned (.bool r) ∧ Ok u m0 S w')) .ret a w := by
    intro a w h
    obtain ⟨ok, hd, hrv⟩ := h
    exact c_ret2 [.t 2 (.bool r)] hd rfl hrv ⟨rfl, ok⟩
  refine enter Tryd.func42 rfl rfl rfl fun a E => ?_
  refine wp_seq ?_
  refine c_region ?_
  refine l_val E ok (y_assign rfl) rfl rfl fun a E => ?_
  refine wpList_nil ?_
  refine t_norm ?_
  refine wp_seq ?_
  refine c_region ?_
  refine l_slit (R := pS) (xo := [.const (Value.string (bs ([122, 101, 114, 111]))), .const (Value.string (bs ([111, 110, 101]))), .const (Value.string (bs ([116, 119, 111]))), .const (Value.string (bs ([102, 101, 119]))), .const (Value.string (bs ([109, 97, 110, 121]))), .const (Value.string (bs ([111, 116, 104, 101, 114])))]) (xs := ([[122, 101, 114, 111], [111, 110, 101], [116, 119, 111], [102, 101, 119], [109, 97, 110, 121], [111, 116, 104, 101, 114]] : List (List UInt8))) E ok sl_22 zero_9 rfl ⟨⟨_, rfl, rfl, (pS_mk (show ([122, 101, 114, 111] : List UInt8).length ≤ LIMS by decide))⟩, ⟨_, rfl, rfl, (pS_mk (show ([111, 110, 101] : List UInt8).length ≤ LIMS by decide))⟩, ⟨_, rfl, rfl, (pS_mk (show ([116, 119, 111] : List UInt8).length ≤ LIMS by decide))⟩, ⟨_, rfl, rfl, (pS_mk (show ([102, 101, 119] : List UInt8).length ≤ LIMS by decide))⟩, ⟨_, rfl, rfl, (pS_mk (show ([109, 97, 110, 121] : List UInt8).length ≤ LIMS by decide))⟩, ⟨_, rfl, rfl, (pS_mk (show ([111, 116, 104, 101, 114] : List UInt8).length ≤ LIMS by decide))⟩, trivial⟩ rfl rfl rfl rfl fun c1 M2 a w E ok h3 => ?_
  refine l_val E ok (y_move rfl) rfl rfl fun a E => ?_
  obtain ⟨r9, e10, hF⟩ := bnd hF
  obtain ⟨m4, hle6, ok5, hfz7⟩ := (ok.frs 0 rfl).freeze
  have h8 := ORow.froz mS h3 hle6 hfz7 (by decide)
  refine l_call E go_49 rfl (slices_Contains_string_string_w N _ ([[122, 101, 114, 111], [111, 110, 101], [116, 119, 111], [102, 101, 119], [109, 97, 110, 121], [111, 116, 104, 101, 114]] : List (List UInt8)) h8 s_0 ls_0 e10 hG ok5) rfl rfl ?_
  rintro _ w ⟨rfl, okz⟩
  replace ok := (Ok.thawAt 0 rfl ok hle6 hfz7 okz)
  refine ⟨_, rfl, fun a E => ?_⟩
  refine l_val E ok (y_assign rfl) rfl rfl fun a E => ?_
  refine wpList_nil ?_
  refine t_norm ?_
  refine wp_ret ?_
  have hret : verify_class_R u m0 S r9 a w := ⟨ok.drop, E.d, ⟨rv_t E rfl, trivial⟩⟩
  obtain rfl := Option.some.inj hF
  exact fin _ _ hret

theorem strings_Cut_w {u : World} {m0 : Mem} {S : Segs} {w : World} (N : Nat) (p0_0 : List UInt8) (lp0_0 : p0_0.length ≤ LIMS) (p1_1 : List UInt8) (lp1_1 : p1_1.length ≤ LIMS) {r : (List UInt8) × (List UInt8) × Bool} (hF : strings_Cut N p0_0 p1_1 = some r) (hG : Glob u) (ok : Ok u m0 S w) :
    Calls Tryd.prog 55 [Value.string (bs p0_0), Value.string (bs p1_1)].toArray w fun e w' => (e = .returned (.tuple [(.string (bs r.1)), (.string (bs r.2.1)), (.bool r.2.2)].toArray) ∧ Ok u m0 S w') ∧ r.1.length ≤ LIMS ∧ r.2.1.length ≤ LIMS := by
  obtain ⟨mx, hmx⟩ := hG
  exact lib_Cut Tryd.lays145 hmx p0_0 p1_1 hF lp0_0 ok

theorem strings_Trim_w {u : World} {m0 : Mem} {S : Segs} {w : World} (N : Nat) (p0_0 : List UInt8) (lp0_0 : p0_0.length ≤ LIMS) (p1_1 : List UInt8) (lp1_1 : p1_1.length ≤ LIMS) {r : (List UInt8)} (hF : strings_Trim N p0_0 p1_1 = some r) (hG : Glob u) (ok : Ok u m0 S w) :
    Calls Tryd.prog 61 [Value.string (bs p0_0), Value.string (bs p1_1)].toArray w fun e w' => (e = .returned (.string (bs r)) ∧ Ok u m0 S w') ∧ r.length ≤ LIMS := lib_Trim Tryd.lays160 (by kernel_rfl) p0_0 p1_1 hF lp0_0 ok

def decimal_digits_R (u : World) (m0 : Mem) (S : Segs) (r : Bool) (a : Act) (w : World) : Prop :=
  Ok u m0 S w ∧ a.defers = [] ∧ RVs Tryd.prog a w [.t 2 (.bool r)]
set_option maxHeartbeats 4000000 in
set_option maxRecDepth 100000 in
theorem decimal_digits_w {u : World} {m0 : Mem} {S : Segs} {w : World} (N : Nat) (s_0 : List UInt8) (ls_0 : s_0.length ≤ LIMS) {r : Bool} (hF : decimal_digits N s_0 = some r) (hG : Glob u) (ok : Ok u m0 S w) :
    Calls Tryd.prog 56 [Value.string (bs s_0)].toArray w fun e w' => (e = .returned (.bool r) ∧ Ok u m0 S w') := by
  have hb0 := ok.base
  have le_m0 := Mem.le.refl m0
  unfold decimal_digits at hF
  have fin : ∀ a w, decimal_digits_R u m0 S r a w → bodyPost Tryd.prog Tryd.f56 (fun e w' => (e = .returned (.bool r) ∧ Ok u m0 S w')) .ret a w := by
    intro a w h
    obtain ⟨ok, hd, hrv⟩ := h
    exact c_ret2 [.t 2 (.bool r)] hd rfl hrv ⟨rfl, ok⟩
  refine enter Tryd.func56 rfl rfl rfl fun a E => ?_
  refine wp_seq ?_
  refine c_region ?_
  refine l_val E ok (y_assign rfl) rfl rfl fun a E => ?_
  refine wpList_nil ?_
  refine t_norm ?_
  refine wp_seq ?_
  refine c_region ?_
  refine l_val E ok (y_move rfl) rfl rfl fun a E => ?_
  obtain ⟨r1, e2, hF⟩ := bnd hF
  refine l_call E go_61 rfl (strings_Trim_w N s_0 ls_0 ([48, 49, 50, 51, 52, 53, 54, 55, 56, 57]) (show ([48, 49, 50, 51, 52, 53, 54, 55, 56, 57] : List UInt8).length ≤ LIMS by decide) e2 hG ok) rfl rfl ?_
  rintro _ w ⟨⟨rfl, ok⟩, l3⟩
  refine ⟨_, rfl, fun a E => ?_⟩
  refine l_val E ok (y_seql rfl rfl) rfl rfl fun a E => ?_
  refine l_val E ok (y_assign rfl) rfl rfl fun a E => ?_
  refine wpList_nil ?_
  refine t_norm ?_
  refine wp_ret ?_
  have hret : decimal_digits_R u m0 S (r1 == ([])) a w := ⟨ok, E.d, ⟨rv_t E rfl, trivial⟩⟩
  obtain rfl := Option.some.inj hF
  exact fin _ _ hret

def decimal_zero_R (u : World) (m0 : Mem) (S : Segs) (r : Bool) (a : Act) (w : World) : Prop :=
  Ok u m0 S w ∧ a.defers = [] ∧ RVs Tryd.prog a w [.t 2 (.bool r)]
set_option maxHeartbeats 4000000 in
set_option maxRecDepth 100000 in
theorem decimal_zero_w {u : World} {m0 : Mem} {S : Segs} {w : World} (N : Nat) (s_0 : List UInt8) (ls_0 : s_0.length ≤ LIMS) {r : Bool} (hF : decimal_zero N s_0 = some r) (hG : Glob u) (ok : Ok u m0 S w) :
    Calls Tryd.prog 62 [Value.string (bs s_0)].toArray w fun e w' => (e = .returned (.bool r) ∧ Ok u m0 S w') := by
  have hb0 := ok.base
  have le_m0 := Mem.le.refl m0
  unfold decimal_zero at hF
  have fin : ∀ a w, decimal_zero_R u m0 S r a w → bodyPost Tryd.prog Tryd.f62 (fun e w' => (e = .returned (.bool r) ∧ Ok u m0 S w')) .ret a w := by
    intro a w h
    obtain ⟨ok, hd, hrv⟩ := h
    exact c_ret2 [.t 2 (.bool r)] hd rfl hrv ⟨rfl, ok⟩
  refine enter Tryd.func62 rfl rfl rfl fun a E => ?_
  refine wp_seq ?_
  refine c_region ?_
  refine l_val E ok (y_assign rfl) rfl rfl fun a E => ?_
  refine wpList_nil ?_
  refine t_norm ?_
  refine wp_seq ?_
  refine c_region ?_
  refine l_val E ok (y_move rfl) rfl rfl fun a E => ?_
  obtain ⟨r1, e2, hF⟩ := bnd hF
  refine l_call E go_61 rfl (strings_Trim_w N s_0 ls_0 ([48]) (show ([48] : List UInt8).length ≤ LIMS by decide) e2 hG ok) rfl rfl ?_
  rintro _ w ⟨⟨rfl, ok⟩, l3⟩
  refine ⟨_, rfl, fun a E => ?_⟩
  refine l_val E ok (y_seql rfl rfl) rfl rfl fun a E => ?_
  refine l_val E ok (y_assign rfl) rfl rfl fun a E => ?_
  refine wpList_nil ?_
  refine t_norm ?_
  refine wp_ret ?_
  have hret : decimal_zero_R u m0 S (r1 == ([])) a w := ⟨ok, E.d, ⟨rv_t E rfl, trivial⟩⟩
  obtain rfl := Option.some.inj hF
  exact fin _ _ hret

def decimal_number_zero_R (u : World) (m0 : Mem) (S : Segs) (r : Bool) (a : Act) (w : World) : Prop :=
  Ok u m0 S w ∧ a.defers = [] ∧ RVs Tryd.prog a w [.t 2 (.bool r)]
set_option maxHeartbeats 4000000 in
set_option maxRecDepth 100000 in
theorem decimal_number_zero_w {u : World} {m0 : Mem} {S : Segs} {w : World} (N : Nat) (vx_0 : List Value) (x_0 : Number) (hx_0 : pNumber m0 vx_0 x_0) {r : Bool} (hF : decimal_number_zero N x_0 = some r) (hG : Glob u) (ok : Ok u m0 S w) :
    Calls Tryd.prog 57 [.agg vx_0.toArray].toArray w fun e w' => (e = .returned (.bool r) ∧ Ok u m0 S w') := by
  obtain ⟨rfl, l1, l2⟩ := hx_0
  have hb0 := ok.base
  have le_m0 := Mem.le.refl m0
  unfold decimal_number_zero at hF
  have fin : ∀ a w, decimal_number_zero_R u m0 S r a w → bodyPost Tryd.prog Tryd.f57 (fun e w' => (e = .returned (.bool r) ∧ Ok u m0 S w')) .ret a w := by
    intro a w h
    obtain ⟨ok, hd, hrv⟩ := h
    exact c_ret2 [.t 2 (.bool r)] hd rfl hrv ⟨rfl, ok⟩
  refine enter Tryd.func57 rfl rfl rfl fun a E => ?_
  refine wp_seq ?_
  refine c_region ?_
  refine l_box E ok rfl rfl rfl fun b3 a w E ok => ?_
  refine l_val E ok (y_assign rfl) rfl rfl fun a E => ?_
  refine wpList_nil ?_
  refine t_norm ?_
  refine wp_seq ?_
  refine c_region ?_
  refine l_val E ok (y_fieldAddr fo_84_1 rfl) rfl rfl fun a E => ?_
  refine l_val E ok (y_load one_9 rfl (Holds.own 0 rfl rfl)) rfl rfl fun a E => ?_
  obtain ⟨r4, e5, hF⟩ := bnd hF
  refine l_call E go_62 rfl (decimal_zero_w N x_0.whole l1 e5 hG ok) rfl rfl ?_
  rintro _ w ⟨rfl, ok⟩
  refine ⟨_, rfl, fun a E => ?_⟩
  refine l_val E ok (y_move rfl) rfl rfl fun a E => ?_
  refine bsplit r4 (fun hc6 => ?_) (fun hc6 => ?_)
  rotate_left
  · replace hF := cond_f hc6 hF
    replace E := E.upd 6 hc6 rfl
    iterate 3 refine l_skip E rfl rfl fun a E => ?_
    refine l_val E ok (y_pickF rfl rfl) rfl rfl fun a E => ?_
    refine l_val E ok (y_assign rfl) rfl rfl fun a E => ?_
    refine wpList_nil ?_
    refine t_norm ?_
    refine wp_ret ?_
    have hret : decimal_number_zero_R u m0 S false a w := ⟨ok.drop, E.d, ⟨rv_t E rfl, trivial⟩⟩
    obtain rfl := Option.some.inj hF
    exact fin _ _ hret
  replace hF := cond_t hc6 hF
  replace E := E.upd 6 hc6 rfl
  refine l_val E ok (y_fieldAddr fo_84_2 rfl) rfl rfl fun a E => ?_
  refine l_val E ok (y_load one_9 rfl (Holds.own 0 rfl rfl)) rfl rfl fun a E => ?_
  obtain ⟨r7, e8, hF⟩ := bnd hF
  refine l_call E go_62 rfl (decimal_zero_w N x_0.fraction l2 e8 hG ok) rfl rfl ?_
  rintro _ w ⟨rfl, ok⟩
  refine ⟨_, rfl, fun a E => ?_⟩
  refine l_val E ok (y_pickT rfl rfl) rfl rfl fun a E => ?_
  refine l_val E ok (y_assign rfl) rfl rfl fun a E => ?_
  refine wpList_nil ?_
  refine t_norm ?_
  refine wp_ret ?_
  have hret : decimal_number_zero_R u m0 S r7 a w := ⟨ok.drop, E.d, ⟨rv_t E rfl, trivial⟩⟩
  obtain rfl := Option.some.inj hF
  exact fin _ _ hret

def decimal_split_R (u : World) (m0 : Mem) (S : Segs) (r : Number × Bool) (a : Act) (w : World) : Prop :=
  ∃ m1 v0, m0.le m1 ∧ Ok u m1 S w ∧ a.defers = [] ∧ RVs Tryd.prog a w [.c 2 84 (.agg v0.toArray), .t 3 (.bool r.2)] ∧ pNumber m1 v0 r.1
set_option maxHeartbeats 4000000 in
set_option maxRecDepth 100000 in
theorem decimal_split_w {u : World} {m0 : Mem} {S : Segs} {w : World} (N : Nat) (s_0 : List UInt8) (ls_0 : s_0.length ≤ LIMS) {r : Number × Bool} (hF : decimal_split N s_0 = some r) (hG : Glob u) (ok : Ok u m0 S w) :
    Calls Tryd.prog 50 [Value.string (bs s_0)].toArray w fun e w' => ∃ m1 v0, e = .returned (.tuple [(.agg v0.toArray), (.bool r.2)].toArray) ∧ m0.le m1 ∧ Ok u m1 S w' ∧ pNumber m1 v0 r.1 := by
  have le_m0 := Mem.le.refl m0
  unfold decimal_split at hF
  have fin : ∀ a w, decimal_split_R u m0 S r a w → bodyPost Tryd.prog Tryd.f50 (fun e w' => ∃ m1 v0, e = .returned (.tuple [(.agg v0.toArray), (.bool r.2)].toArray) ∧ m0.le m1 ∧ Ok u m1 S w' ∧ pNumber m1 v0 r.1) .ret a w := by
    intro a w h
    obtain ⟨m1, v0, hle, ok, hd, hrv, h0⟩ := h
    exact c_ret2 [.c 2 84 (.agg v0.toArray), .t 3 (.bool r.2)] hd rfl hrv ⟨m1, v0, rfl, hle, ok, h0⟩
  refine enter Tryd.func50 rfl rfl rfl fun a E => ?_
  refine wp_seq ?_
  refine c_region ?_
  refine l_alloc E ok zero_84 rfl rfl fun b1 a w E ok => ?_
  refine l_val E ok (y_assign rfl) rfl rfl fun a E => ?_
  refine wpList_nil ?_
  refine t_norm ?_
  refine wp_seq ?_
  refine c_region ?_
  refine l_val E ok (y_move rfl) rfl rfl fun a E => ?_
  obtain ⟨r2, e3, hF⟩ := bnd hF
  refine l_call E go_41 rfl (strings_CutPrefix_w N s_0 ls_0 ([45]) (show ([45] : List UInt8).length ≤ LIMS by decide) e3 hG ok) rfl rfl ?_
  rintro _ w ⟨⟨rfl, ok⟩, l4⟩
  refine ⟨_, rfl, fun a E => ?_⟩
  refine l_val E ok (y_move rfl) rfl rfl fun a E => ?_
  refine l_val E ok (y_extract rfl rfl) rfl rfl fun a E => ?_
  refine l_val E ok (y_extract rfl rfl) rfl rfl fun a E => ?_
  refine l_val E ok (y_assign rfl) rfl rfl fun a E => ?_
  refine l_val E ok (y_assign rfl) rfl rfl fun a E => ?_
  refine wpList_nil ?_
  refine t_norm ?_
  refine wp_seq ?_
  refine c_region ?_
  refine l_val E ok (y_move rfl) rfl rfl fun a E => ?_
  obtain ⟨r5, e6, hF⟩ := bnd hF
  refine l_call E go_55 rfl (strings_Cut_w N r2.1 l4 ([46]) (show ([46] : List UInt8).length ≤ LIMS by decide) e6 hG ok) rfl rfl ?_
  rintro _ w ⟨⟨rfl, ok⟩, l7, l8⟩
  refine ⟨_, rfl, fun a E => ?_⟩
  refine l_val E ok (y_move rfl) rfl rfl fun a E => ?_
  refine l_val E ok (y_extract rfl rfl) rfl rfl fun a E => ?_
  refine l_val E ok (y_extract rfl rfl) rfl rfl fun a E => ?_
  refine l_val E ok (y_extract rfl rfl) rfl rfl fun a E => ?_
  refine l_val E ok (y_assign rfl) rfl rfl fun a E => ?_
  refine l_val E ok (y_assign rfl) rfl rfl fun a E => ?_
  refine l_val E ok (y_assign rfl) rfl rfl fun a E => ?_
  refine wpList_nil ?_
  refine t_norm ?_
  refine wp_seq ?_
  refine c_region ?_
  refine l_val E ok (y_move rfl) rfl rfl fun a E => ?_
  refine l_val E ok (y_move rfl) rfl rfl fun a E => ?_
  refine l_val E ok (y_move rfl) rfl rfl fun a E => ?_
  refine l_val E ok (y_build (ps := [(0, .tmp 21), (1, .tmp 22), (2, .tmp 23)]) (qs := [(0, [(Value.bool r2.2)]), (1, [(Value.string (bs r5.1))]), (2, [(Value.string (bs r5.2.1))])]) (cs := [(Value.bool r2.2), (Value.string (bs r5.1)), (Value.string (bs r5.2.1))]) zero_84 places_84 rfl ⟨rfl, rfl, rfl, ⟨rfl, rfl, rfl, ⟨rfl, rfl, rfl, trivial⟩⟩⟩ rfl) rfl rfl fun a E => ?_
  refine l_alloc E ok zero_84 rfl rfl fun b9 a w E ok => ?_
  refine l_storeB E ok 0 rfl rfl rfl inf_84 rfl rfl ⟨rfl, rfl, rfl, trivial⟩ rfl rfl fun w ok => ?_
  refine wpList_nil ?_
  refine t_norm ?_
  refine wp_seq ?_
  refine wp_block ?_
  refine wp_seq ?_
  refine c_region ?_
  refine l_val E ok (y_move rfl) rfl rfl fun a E => ?_
  refine l_val E ok (y_slen Tryd.underlying9 rfl) rfl rfl fun a E => ?_
  refine l_val E ok (y_lss rfl rfl) rfl rfl fun a E => ?_
  refine l_val E ok (y_move rfl) rfl rfl fun a E => ?_
  refine bsplit (decide ((r5.1.length : Int) < 1)) (fun hc10 => ?_) (fun hc10 => ?_)
  · replace hF := cond_t hc10 hF
    replace E := E.upd 29 hc10 rfl
    iterate 3 refine l_skip E rfl rfl fun a E => ?_
    refine l_val E ok (y_pickT rfl rfl) rfl rfl fun a E => ?_
    refine l_val E ok (y_move rfl) rfl rfl fun a E => ?_
    iterate 3 refine l_skip E rfl rfl fun a E => ?_
    refine l_val E ok (y_pickT rfl rfl) rfl rfl fun a E => ?_
    refine l_val E ok (y_move rfl) rfl rfl fun a E => ?_
    iterate 8 refine l_skip E rfl rfl fun a E => ?_
    refine l_val E ok (y_pickT rfl rfl) rfl rfl fun a E => ?_
    refine l_val E ok (y_assign rfl) rfl rfl fun a E => ?_
    refine wpList_nil ?_
    refine t_norm ?_
    refine c_if E rfl (fun _ => ?_) (fun h => by cases h)
    refine wp_seq ?_
    refine c_region ?_
    refine l_val E ok (y_loadAgg (cs := [(Value.bool r2.2), (Value.string (bs r5.1)), (Value.string (bs r5.2.1))]) agg_84 rfl rfl (Holds.own 0 rfl rfl)) rfl rfl fun a E => ?_
    refine l_storeB E ok 1 rfl rfl rfl inf_84 rfl rfl ⟨rfl, rfl, rfl, trivial⟩ rfl rfl fun w ok => ?_
    refine l_val E ok (y_assign rfl) rfl rfl fun a E => ?_
    refine wpList_nil ?_
    refine t_norm ?_
    refine wp_ret ?_
    refine b_ret ?_
    refine t_ret ?_
    have hret : decimal_split_R u m0 S ((Number.mk r2.2 r5.1 r5.2.1), false) a w := ⟨m0, [(Value.bool r2.2), (Value.string (bs r5.1)), (Value.string (bs r5.2.1))], le_m0, ok.drop.drop, E.d, ⟨rv_c (cs := [(Value.bool r2.2), (Value.string (bs r5.1)), (Value.string (bs r5.2.1))]) E ok rfl agg_84 rfl (Holds.own 1 rfl rfl), rv_t E rfl, trivial⟩, ⟨rfl, l7, l8⟩⟩
    obtain rfl := Option.some.inj hF
    exact fin _ _ hret
  replace hF := cond_f hc10 hF
  replace E := E.upd 29 hc10 rfl
  refine l_val E ok (y_move rfl) rfl rfl fun a E => ?_
  refine l_val E ok (y_slen Tryd.underlying9 rfl) rfl rfl fun a E => ?_
  refine l_val E ok (y_gtr rfl rfl) rfl rfl fun a E => ?_
  refine l_val E ok (y_pickF rfl rfl) rfl rfl fun a E => ?_
  refine l_val E ok (y_move rfl) rfl rfl fun a E => ?_
  refine bsplit (decide ((r5.1.length : Int) > 15)) (fun hc11 => ?_) (fun hc11 => ?_)
  · replace hF := cond_t hc11 hF
    replace E := E.upd 34 hc11 rfl
    iterate 3 refine l_skip E rfl rfl fun a E => ?_
    refine l_val E ok (y_pickT rfl rfl) rfl rfl fun a E => ?_
    refine l_val E ok (y_move rfl) rfl rfl fun a E => ?_
    iterate 8 refine l_skip E rfl rfl fun a E => ?_
    refine l_val E ok (y_pickT rfl rfl) rfl rfl fun a E => ?_
    refine l_val E ok (y_assign rfl) rfl rfl fun a E => ?_
    refine wpList_nil ?_
    refine t_norm ?_
    refine c_if E rfl (fun _ => ?_) (fun h => by cases h)
    refine wp_seq ?_
    refine c_region ?_
    refine l_val E ok (y_loadAgg (cs := [(Value.bool r2.2), (Value.string (bs r5.1)), (Value.string (bs r5.2.1))]) agg_84 rfl rfl (Holds.own 0 rfl rfl)) rfl rfl fun a E => ?_
    refine l_storeB E ok 1 rfl rfl rfl inf_84 rfl rfl ⟨rfl, rfl, rfl, trivial⟩ rfl rfl fun w ok => ?_
    refine l_val E ok (y_assign rfl) rfl rfl fun a E => ?_
    refine wpList_nil ?_
    refine t_norm ?_
    refine wp_ret ?_
    refine b_ret ?_
    refine t_ret ?_
    have hret : decimal_split_R u m0 S ((Number.mk r2.2 r5.1 r5.2.1), false) a w := ⟨m0, [(Value.bool r2.2), (Value.string (bs r5.1)), (Value.string (bs r5.2.1))], le_m0, ok.drop.drop, E.d, ⟨rv_c (cs := [(Value.bool r2.2), (Value.string (bs r5.1)), (Value.string (bs r5.2.1))]) E ok rfl agg_84 rfl (Holds.own 1 rfl rfl), rv_t E rfl, trivial⟩, ⟨rfl, l7, l8⟩⟩
    obtain rfl := Option.some.inj hF
    exact fin _ _ hret
  replace hF := cond_f hc11 hF
  replace E := E.upd 34 hc11 rfl
  refine l_val E ok (y_move rfl) rfl rfl fun a E => ?_
  obtain ⟨r12, e13, hF⟩ := bnd hF
  refine l_call E go_56 rfl (decimal_digits_w N r5.1 l7 e13 hG ok) rfl rfl ?_
  rintro _ w ⟨rfl, ok⟩
  refine ⟨_, rfl, fun a E => ?_⟩
  refine l_val E ok (y_not rfl) rfl rfl fun a E => ?_
  refine l_val E ok (y_pickF rfl rfl) rfl rfl fun a E => ?_
  refine l_val E ok (y_move rfl) rfl rfl fun a E => ?_
  refine bsplit (!r12) (fun hc14 => ?_) (fun hc14 => ?_)
  · replace hF := cond_t hc14 hF
    replace E := E.upd 39 hc14 rfl
    iterate 8 refine l_skip E rfl rfl fun a E => ?_
    refine l_val E ok (y_pickT rfl rfl) rfl rfl fun a E => ?_
    refine l_val E ok (y_assign rfl) rfl rfl fun a E => ?_
    refine wpList_nil ?_
    refine t_norm ?_
    refine c_if E rfl (fun _ => ?_) (fun h => by cases h)
    refine wp_seq ?_
    refine c_region ?_
    refine l_val E ok (y_loadAgg (cs := [(Value.bool r2.2), (Value.string (bs r5.1)), (Value.string (bs r5.2.1))]) agg_84 rfl rfl (Holds.own 0 rfl rfl)) rfl rfl fun a E => ?_
    refine l_storeB E ok 1 rfl rfl rfl inf_84 rfl rfl ⟨rfl, rfl, rfl, trivial⟩ rfl rfl fun w ok => ?_
    refine l_val E ok (y_assign rfl) rfl rfl fun a E => ?_
    refine wpList_nil ?_
    refine t_norm ?_
    refine wp_ret ?_
    refine b_ret ?_
    refine t_ret ?_
    have hret : decimal_split_R u m0 S ((Number.mk r2.2 r5.1 r5.2.1), false) a w := ⟨m0, [(Value.bool r2.2), (Value.string (bs r5.1)), (Value.string (bs r5.2.1))], le_m0, ok.drop.drop, E.d, ⟨rv_c (cs := [(Value.bool r2.2), (Value.string (bs r5.1)), (Value.string (bs r5.2.1))]) E ok rfl agg_84 rfl (Holds.own 1 rfl rfl), rv_t E rfl, trivial⟩, ⟨rfl, l7, l8⟩⟩
    obtain rfl := Option.some.inj hF
    exact fin _ _ hret
  replace hF := cond_f hc14 hF
  replace E := E.upd 39 hc14 rfl
  refine l_val E ok (y_move rfl) rfl rfl fun a E => ?_
  refine l_val E ok (y_slen Tryd.underlying9 rfl) rfl rfl fun a E => ?_
  refine l_val E ok (y_gtr rfl rfl) rfl rfl fun a E => ?_
  refine l_val E ok (y_move rfl) rfl rfl fun a E => ?_
  refine bsplit (decide ((r5.1.length : Int) > 1)) (fun hc15 => ?_) (fun hc15 => ?_)
  rotate_left
  · as_aux_lemma =>
      replace hF := cond_f hc15 hF
      replace E := E.upd 43 hc15 rfl
      iterate 3 refine l_skip E rfl rfl fun a E => ?_
      refine l_val E ok (y_pickF rfl rfl) rfl rfl fun a E => ?_
      refine l_val E ok (y_pickF rfl rfl) rfl rfl fun a E => ?_
      refine l_val E ok (y_assign rfl) rfl rfl fun a E => ?_
      refine wpList_nil ?_
      refine t_norm ?_
      refine c_if E rfl (fun h => by cases h) (fun _ => ?_)
      refine wp_seq ?_
      refine c_region ?_
      refine l_val E ok (y_move rfl) rfl rfl fun a E => ?_
      refine l_val E ok (y_move rfl) rfl rfl fun a E => ?_
      refine bsplit r5.2.2 (fun hc45 => ?_) (fun hc45 => ?_)
      rotate_left
      · as_aux_lemma =>
          replace hF := cond_f hc45 hF
          replace E := E.upd 52 hc45 rfl
          iterate 3 refine l_skip E rfl rfl fun a E => ?_
          refine l_val E ok (y_pickF rfl rfl) rfl rfl fun a E => ?_
          refine l_val E ok (y_move rfl) rfl rfl fun a E => ?_
          refine l_val E ok (y_move rfl) rfl rfl fun a E => ?_
          refine l_val E ok (y_slen Tryd.underlying9 rfl) rfl rfl fun a E => ?_
          refine l_val E ok (y_gtr rfl rfl) rfl rfl fun a E => ?_
          refine l_val E ok (y_pickF rfl rfl) rfl rfl fun a E => ?_
          refine l_val E ok (y_move rfl) rfl rfl fun a E => ?_
          refine bsplit (decide ((r5.2.1.length : Int) > 6)) (fun hc59 => ?_) (fun hc59 => ?_)
          · replace hF := cond_t hc59 hF
            replace E := E.upd 62 hc59 rfl
            iterate 3 refine l_skip E rfl rfl fun a E => ?_
            refine l_val E ok (y_pickT rfl rfl) rfl rfl fun a E => ?_
            refine l_val E ok (y_assign rfl) rfl rfl fun a E => ?_
            refine wpList_nil ?_
            refine t_norm ?_
            refine c_if E rfl (fun _ => ?_) (fun h => by cases h)
            refine wp_seq ?_
            refine c_region ?_
            refine l_val E ok (y_loadAgg (cs := [(Value.bool r2.2), (Value.string (bs r5.1)), (Value.string (bs r5.2.1))]) agg_84 rfl rfl (Holds.own 0 rfl rfl)) rfl rfl fun a E => ?_
            refine l_storeB E ok 1 rfl rfl rfl inf_84 rfl rfl ⟨rfl, rfl, rfl, trivial⟩ rfl rfl fun w ok => ?_
            refine l_val E ok (y_assign rfl) rfl rfl fun a E => ?_
            refine wpList_nil ?_
            refine t_norm ?_
            refine wp_ret ?_
            refine b_ret ?_
            refine t_ret ?_
            have hret : decimal_split_R u m0 S ((Number.mk r2.2 r5.1 r5.2.1), false) a w := ⟨m0, [(Value.bool r2.2), (Value.string (bs r5.1)), (Value.string (bs r5.2.1))], le_m0, ok.drop.drop, E.d, ⟨rv_c (cs := [(Value.bool r2.2), (Value.string (bs r5.1)), (Value.string (bs r5.2.1))]) E ok rfl agg_84 rfl (Holds.own 1 rfl rfl), rv_t E rfl, trivial⟩, ⟨rfl, l7, l8⟩⟩
            obtain rfl := Option.some.inj hF
            exact fin _ _ hret
          replace hF := cond_f hc59 hF
          replace E := E.upd 62 hc59 rfl
          refine l_val E ok (y_move rfl) rfl rfl fun a E => ?_
          obtain ⟨r60, e61, hF⟩ := bnd hF
          refine l_call E go_56 rfl (decimal_digits_w N r5.2.1 l8 e61 hG ok) rfl rfl ?_
          rintro _ w ⟨rfl, ok⟩
          refine ⟨_, rfl, fun a E => ?_⟩
          refine l_val E ok (y_not rfl) rfl rfl fun a E => ?_
          refine l_val E ok (y_pickF rfl rfl) rfl rfl fun a E => ?_
          refine l_val E ok (y_assign rfl) rfl rfl fun a E => ?_
          refine wpList_nil ?_
          refine t_norm ?_
          refine c_if E rfl (fun hc62 => ?_) (fun hc62 => ?_)
          · replace hF := cond_t hc62 hF
            refine wp_seq ?_
            refine c_region ?_
            refine l_val E ok (y_loadAgg (cs := [(Value.bool r2.2), (Value.string (bs r5.1)), (Value.string (bs r5.2.1))]) agg_84 rfl rfl (Holds.own 0 rfl rfl)) rfl rfl fun a E => ?_
            refine l_storeB E ok 1 rfl rfl rfl inf_84 rfl rfl ⟨rfl, rfl, rfl, trivial⟩ rfl rfl fun w ok => ?_
            refine l_val E ok (y_assign rfl) rfl rfl fun a E => ?_
            refine wpList_nil ?_
            refine t_norm ?_
            refine wp_ret ?_
            refine b_ret ?_
            refine t_ret ?_
            have hret : decimal_split_R u m0 S ((Number.mk r2.2 r5.1 r5.2.1), false) a w := ⟨m0, [(Value.bool r2.2), (Value.string (bs r5.1)), (Value.string (bs r5.2.1))], le_m0, ok.drop.drop, E.d, ⟨rv_c (cs := [(Value.bool r2.2), (Value.string (bs r5.1)), (Value.string (bs r5.2.1))]) E ok rfl agg_84 rfl (Holds.own 1 rfl rfl), rv_t E rfl, trivial⟩, ⟨rfl, l7, l8⟩⟩
            obtain rfl := Option.some.inj hF
            exact fin _ _ hret
          replace hF := cond_f hc62 hF
          refine wp_skip ?_
          refine b_norm ?_
          refine t_norm ?_
          refine wp_seq ?_
          obtain ⟨o63, hJ, hF⟩ := bnd hF
          refine c_mono (Q' := fun e a w => e = .normal ∧ Ok u m0 ([(b9, Obj.cells [(Value.bool r2.2), (Value.string (bs r5.1)), (Value.string (bs r5.2.1))].toArray 84 (0, 0))] :: [(b1, Obj.cells [(Value.bool o63.2.negative), (Value.string (bs o63.2.whole)), (Value.string (bs o63.2.fraction))].toArray 84 (0, 0))] :: S) w ∧ Env 76 a [(2, (Value.pointer (some ⟨b1, 0, none⟩))), (3, (Value.bool o63.1))] ∧ o63.2.whole.length ≤ LIMS ∧ o63.2.fraction.length ≤ LIMS) ?_ ?_
          rotate_left
          · clear hJ
            intro e a w hO
            obtain ⟨rfl, ok, E, l69, l70⟩ := hO
            refine t_norm ?_
            refine wp_ret ?_
            have hret : decimal_split_R u m0 S (o63.2, o63.1) a w := ⟨m0, [(Value.bool o63.2.negative), (Value.string (bs o63.2.whole)), (Value.string (bs o63.2.fraction))], le_m0, ok.drop.drop, E.d, ⟨rv_c (cs := [(Value.bool o63.2.negative), (Value.string (bs o63.2.whole)), (Value.string (bs o63.2.fraction))]) E ok rfl agg_84 rfl (Holds.own 1 rfl rfl), rv_t E rfl, trivial⟩, ⟨rfl, l69, l70⟩⟩
            obtain rfl := Option.some.inj hF
            exact fin _ _ hret
          replace hF := hJ
          clear hJ
          refine bsplit (!r2.2) (fun hc66 => ?_) (fun hc66 => ?_)
          · replace hF := cond_t hc66 hF
            obtain rfl := Option.some.inj hF
            refine k_begin [0] (Cls u m0 ([(b9, Obj.cells [(Value.bool r2.2), (Value.string (bs r5.1)), (Value.string (bs r5.2.1))].toArray 84 (0, 0))] :: [(b1, Obj.cells [(Value.bool false), (Value.string (bs ([]))), (Value.string (bs ([])))].toArray 84 (0, 0))] :: [])) (Cls u m0 ([(b9, Obj.cells [(Value.bool r2.2), (Value.string (bs r5.1)), (Value.string (bs r5.2.1))].toArray 84 (0, 0))] :: [])) (by kernel_rfl) ?_
            intro w hw
            replace ok := okdrew ok hw
            clear hw
            refine k_next (cl1 ⟨m0, _, le_m0, ok, ⟨memAt 0 rfl, memAt 1 rfl, trivial⟩⟩ ⟨m0, _, le_m0, ok, ⟨memAt 0 rfl, trivial⟩⟩) fun hT => ?_
            refine k_takeN 0 E rfl (by kernel_rfl) nP hT (y_loadAgg (cs := [(Value.bool r2.2), (Value.string (bs r5.1)), (Value.string (bs r5.2.1))]) agg_84 rfl rfl (Holds.cown 0 rfl rfl)) rfl rfl fun a E => ?_
            refine k_take 1 E rfl (by kernel_rfl) nP hT (y_move rfl) rfl rfl fun a E => ?_
            refine k_take 2 E rfl (by kernel_rfl) nP hT (y_not rfl) rfl rfl fun a E => ?_
            refine k_take 3 E rfl (by kernel_rfl) nP hT (y_move rfl) rfl rfl fun a E => ?_
            replace E := E.upd 71 hc66 rfl
            refine k_skip 4 false E rfl (by kernel_rfl) nP hT rfl rfl fun a E => ?_
            refine k_skip 5 false E rfl (by kernel_rfl) nP hT rfl rfl fun a E => ?_
            refine k_skip 6 false E rfl (by kernel_rfl) nP hT rfl rfl fun a E => ?_
            refine k_take 7 E rfl (by kernel_rfl) nP hT (y_pickT rfl rfl) rfl rfl fun a E => ?_
            refine k_all [8] (by kernel_rfl) rfl (one_c ?_)
            · refine wpOp_of_list (o := _) rfl ?_
              refine l_storeB E ok 1 rfl rfl rfl inf_84 rfl rfl ⟨rfl, rfl, rfl, trivial⟩ rfl rfl fun w ok => ?_
              refine wpList_nil ?_
              refine t_norm ?_
              refine k_next (cl2 (by kernel_rfl) ⟨m0, _, le_m0, ok, ⟨memAt 0 rfl, trivial⟩⟩) fun hT => ?_
              refine k_take 9 E rfl (by kernel_rfl) nP hT (y_assign rfl) rfl rfl fun a E => ?_
              refine k_done (by kernel_rfl) ?_
              exact ⟨rfl, ⟨ok, E.keep [2, 3], l7, l8⟩⟩
          replace hF := cond_f hc66 hF
          obtain ⟨r67, e68, hF⟩ := bnd hF
          obtain rfl := Option.some.inj hF
          refine k_begin [0] (Cls u m0 ([(b9, Obj.cells [(Value.bool r2.2), (Value.string (bs r5.1)), (Value.string (bs r5.2.1))].toArray 84 (0, 0))] :: [(b1, Obj.cells [(Value.bool false), (Value.string (bs ([]))), (Value.string (bs ([])))].toArray 84 (0, 0))] :: [])) (Cls u m0 ([(b9, Obj.cells [(Value.bool r2.2), (Value.string (bs r5.1)), (Value.string (bs r5.2.1))].toArray 84 (0, 0))] :: [])) (by kernel_rfl) ?_
          intro w hw
          replace ok := okdrew ok hw
          clear hw
          refine k_next (cl1 ⟨m0, _, le_m0, ok, ⟨memAt 0 rfl, memAt 1 rfl, trivial⟩⟩ ⟨m0, _, le_m0, ok, ⟨memAt 0 rfl, trivial⟩⟩) fun hT => ?_
          refine k_takeN 0 E rfl (by kernel_rfl) nP hT (y_loadAgg (cs := [(Value.bool r2.2), (Value.string (bs r5.1)), (Value.string (bs r5.2.1))]) agg_84 rfl rfl (Holds.cown 0 rfl rfl)) rfl rfl fun a E => ?_
          refine k_take 1 E rfl (by kernel_rfl) nP hT (y_move rfl) rfl rfl fun a E => ?_
          refine k_take 2 E rfl (by kernel_rfl) nP hT (y_not rfl) rfl rfl fun a E => ?_
          refine k_take 3 E rfl (by kernel_rfl) nP hT (y_move rfl) rfl rfl fun a E => ?_
          replace E := E.upd 71 hc66 rfl
          refine k_take 4 E rfl (by kernel_rfl) nP hT (y_loadAgg (cs := [(Value.bool r2.2), (Value.string (bs r5.1)), (Value.string (bs r5.2.1))]) agg_84 rfl rfl (Holds.cown 0 rfl rfl)) rfl rfl fun a E => ?_
          refine k_all [5] (by kernel_rfl) rfl (one_c ?_)
          · refine wpOp_of_list (o := _) rfl ?_
            refine l_call E go_57 rfl (decimal_number_zero_w N _ (Number.mk r2.2 r5.1 r5.2.1) ⟨rfl, l7, l8⟩ e68 hG ok) rfl rfl ?_
            rintro _ w ⟨rfl, ok⟩
            refine ⟨_, rfl, fun a E => ?_⟩
            refine wpList_nil ?_
            refine t_norm ?_
            refine k_next (cl1 ⟨m0, _, le_m0, ok, ⟨memAt 0 rfl, memAt 1 rfl, trivial⟩⟩ ⟨m0, _, le_m0, ok, ⟨memAt 0 rfl, trivial⟩⟩) fun hT => ?_
            refine k_take 6 E rfl (by kernel_rfl) nP hT (y_not rfl) rfl rfl fun a E => ?_
            refine k_take 7 E rfl (by kernel_rfl) nP hT (y_pickF rfl rfl) rfl rfl fun a E => ?_
            refine k_all [8] (by kernel_rfl) rfl (one_c ?_)
            · refine wpOp_of_list (o := _) rfl ?_
              refine l_storeB E ok 1 rfl rfl rfl inf_84 rfl rfl ⟨rfl, rfl, rfl, trivial⟩ rfl rfl fun w ok => ?_
              refine wpList_nil ?_
              refine t_norm ?_
              refine k_next (cl2 (by kernel_rfl) ⟨m0, _, le_m0, ok, ⟨memAt 0 rfl, trivial⟩⟩) fun hT => ?_
              refine k_take 9 E rfl (by kernel_rfl) nP hT (y_assign rfl) rfl rfl fun a E => ?_
              refine k_done (by kernel_rfl) ?_
              exact ⟨rfl, ⟨ok, E.keep [2, 3], l7, l8⟩⟩
      replace hF := cond_t hc45 hF
      replace E := E.upd 52 hc45 rfl
      refine l_val E ok (y_move rfl) rfl rfl fun a E => ?_
      refine l_val E ok (y_slen Tryd.underlying9 rfl) rfl rfl fun a E => ?_
      refine l_val E ok (y_eql rfl rfl) rfl rfl fun a E => ?_
      refine l_val E ok (y_pickT rfl rfl) rfl rfl fun a E => ?_
      refine l_val E ok (y_move rfl) rfl rfl fun a E => ?_
      refine bsplit ((r5.2.1.length : Int) == 0) (fun hc46 => ?_) (fun hc46 => ?_)
      · replace hF := cond_t hc46 hF
        replace E := E.upd 57 hc46 rfl
        iterate 3 refine l_skip E rfl rfl fun a E => ?_
        refine l_val E ok (y_pickT rfl rfl) rfl rfl fun a E => ?_
        refine l_val E ok (y_move rfl) rfl rfl fun a E => ?_
        iterate 3 refine l_skip E rfl rfl fun a E => ?_
        refine l_val E ok (y_pickT rfl rfl) rfl rfl fun a E => ?_
        refine l_val E ok (y_assign rfl) rfl rfl fun a E => ?_
        refine wpList_nil ?_
        refine t_norm ?_
        refine c_if E rfl (fun _ => ?_) (fun h => by cases h)
        refine wp_seq ?_
        refine c_region ?_
        refine l_val E ok (y_loadAgg (cs := [(Value.bool r2.2), (Value.string (bs r5.1)), (Value.string (bs r5.2.1))]) agg_84 rfl rfl (Holds.own 0 rfl rfl)) rfl rfl fun a E => ?_
        refine l_storeB E ok 1 rfl rfl rfl inf_84 rfl rfl ⟨rfl, rfl, rfl, trivial⟩ rfl rfl fun w ok => ?_
        refine l_val E ok (y_assign rfl) rfl rfl fun a E => ?_
        refine wpList_nil ?_
        refine t_norm ?_
        refine wp_ret ?_
        refine b_ret ?_
        refine t_ret ?_
        have hret : decimal_split_R u m0 S ((Number.mk r2.2 r5.1 r5.2.1), false) a w := ⟨m0, [(Value.bool r2.2), (Value.string (bs r5.1)), (Value.string (bs r5.2.1))], le_m0, ok.drop.drop, E.d, ⟨rv_c (cs := [(Value.bool r2.2), (Value.string (bs r5.1)), (Value.string (bs r5.2.1))]) E ok rfl agg_84 rfl (Holds.own 1 rfl rfl), rv_t E rfl, trivial⟩, ⟨rfl, l7, l8⟩⟩
        obtain rfl := Option.some.inj hF
        exact fin _ _ hret
      replace hF := cond_f hc46 hF
      replace E := E.upd 57 hc46 rfl
      refine l_val E ok (y_move rfl) rfl rfl fun a E => ?_
      refine l_val E ok (y_slen Tryd.underlying9 rfl) rfl rfl fun a E => ?_
      refine l_val E ok (y_gtr rfl rfl) rfl rfl fun a E => ?_
      refine l_val E ok (y_pickF rfl rfl) rfl rfl fun a E => ?_
      refine l_val E ok (y_move rfl) rfl rfl fun a E => ?_
      refine bsplit (decide ((r5.2.1.length : Int) > 6)) (fun hc47 => ?_) (fun hc47 => ?_)
      · replace hF := cond_t hc47 hF
        replace E := E.upd 62 hc47 rfl
        iterate 3 refine l_skip E rfl rfl fun a E => ?_
        refine l_val E ok (y_pickT rfl rfl) rfl rfl fun a E => ?_
        refine l_val E ok (y_assign rfl) rfl rfl fun a E => ?_
        refine wpList_nil ?_
        refine t_norm ?_
        refine c_if E rfl (fun _ => ?_) (fun h => by cases h)
        refine wp_seq ?_
        refine c_region ?_
        refine l_val E ok (y_loadAgg (cs := [(Value.bool r2.2), (Value.string (bs r5.1)), (Value.string (bs r5.2.1))]) agg_84 rfl rfl (Holds.own 0 rfl rfl)) rfl rfl fun a E => ?_
        refine l_storeB E ok 1 rfl rfl rfl inf_84 rfl rfl ⟨rfl, rfl, rfl, trivial⟩ rfl rfl fun w ok => ?_
        refine l_val E ok (y_assign rfl) rfl rfl fun a E => ?_
        refine wpList_nil ?_
        refine t_norm ?_
        refine wp_ret ?_
        refine b_ret ?_
        refine t_ret ?_
        have hret : decimal_split_R u m0 S ((Number.mk r2.2 r5.1 r5.2.1), false) a w := ⟨m0, [(Value.bool r2.2), (Value.string (bs r5.1)), (Value.string (bs r5.2.1))], le_m0, ok.drop.drop, E.d, ⟨rv_c (cs := [(Value.bool r2.2), (Value.string (bs r5.1)), (Value.string (bs r5.2.1))]) E ok rfl agg_84 rfl (Holds.own 1 rfl rfl), rv_t E rfl, trivial⟩, ⟨rfl, l7, l8⟩⟩
        obtain rfl := Option.some.inj hF
        exact fin _ _ hret
      replace hF := cond_f hc47 hF
      replace E := E.upd 62 hc47 rfl
      refine l_val E ok (y_move rfl) rfl rfl fun a E => ?_
      obtain ⟨r48, e49, hF⟩ := bnd hF
      refine l_call E go_56 rfl (decimal_digits_w N r5.2.1 l8 e49 hG ok) rfl rfl ?_
      rintro _ w ⟨rfl, ok⟩
      refine ⟨_, rfl, fun a E => ?_⟩
      refine l_val E ok (y_not rfl) rfl rfl fun a E => ?_
      refine l_val E ok (y_pickF rfl rfl) rfl rfl fun a E => ?_
      refine l_val E ok (y_assign rfl) rfl rfl fun a E => ?_
      refine wpList_nil ?_
      refine t_norm ?_
      refine c_if E rfl (fun hc50 => ?_) (fun hc50 => ?_)
      · replace hF := cond_t hc50 hF
        refine wp_seq ?_
        refine c_region ?_
        refine l_val E ok (y_loadAgg (cs := [(Value.bool r2.2), (Value.string (bs r5.1)), (Value.string (bs r5.2.1))]) agg_84 rfl rfl (Holds.own 0 rfl rfl)) rfl rfl fun a E => ?_
        refine l_storeB E ok 1 rfl rfl rfl inf_84 rfl rfl ⟨rfl, rfl, rfl, trivial⟩ rfl rfl fun w ok => ?_
        refine l_val E ok (y_assign rfl) rfl rfl fun a E => ?_
        refine wpList_nil ?_
        refine t_norm ?_
        refine wp_ret ?_
        refine b_ret ?_
        refine t_ret ?_
        have hret : decimal_split_R u m0 S ((Number.mk r2.2 r5.1 r5.2.1), false) a w := ⟨m0, [(Value.bool r2.2), (Value.string (bs r5.1)), (Value.string (bs r5.2.1))], le_m0, ok.drop.drop, E.d, ⟨rv_c (cs := [(Value.bool r2.2), (Value.string (bs r5.1)), (Value.string (bs r5.2.1))]) E ok rfl agg_84 rfl (Holds.own 1 rfl rfl), rv_t E rfl, trivial⟩, ⟨rfl, l7, l8⟩⟩
        obtain rfl := Option.some.inj hF
        exact fin _ _ hret
      replace hF := cond_f hc50 hF
      refine wp_skip ?_
      refine b_norm ?_
      refine t_norm ?_
      refine wp_seq ?_
      obtain ⟨o51, hJ, hF⟩ := bnd hF
      refine c_mono (Q' := fun e a w => e = .normal ∧ Ok u m0 ([(b9, Obj.cells [(Value.bool r2.2), (Value.string (bs r5.1)), (Value.string (bs r5.2.1))].toArray 84 (0, 0))] :: [(b1, Obj.cells [(Value.bool o51.2.negative), (Value.string (bs o51.2.whole)), (Value.string (bs o51.2.fraction))].toArray 84 (0, 0))] :: S) w ∧ Env 76 a [(2, (Value.pointer (some ⟨b1, 0, none⟩))), (3, (Value.bool o51.1))] ∧ o51.2.whole.length ≤ LIMS ∧ o51.2.fraction.length ≤ LIMS) ?_ ?_
      rotate_left
      · clear hJ
        intro e a w hO
        obtain ⟨rfl, ok, E, l57, l58⟩ := hO
        refine t_norm ?_
        refine wp_ret ?_
        have hret : decimal_split_R u m0 S (o51.2, o51.1) a w := ⟨m0, [(Value.bool o51.2.negative), (Value.string (bs o51.2.whole)), (Value.string (bs o51.2.fraction))], le_m0, ok.drop.drop, E.d, ⟨rv_c (cs := [(Value.bool o51.2.negative), (Value.string (bs o51.2.whole)), (Value.string (bs o51.2.fraction))]) E ok rfl agg_84 rfl (Holds.own 1 rfl rfl), rv_t E rfl, trivial⟩, ⟨rfl, l57, l58⟩⟩
        obtain rfl := Option.some.inj hF
        exact fin _ _ hret
      replace hF := hJ
      clear hJ
      refine bsplit (!r2.2) (fun hc54 => ?_) (fun hc54 => ?_)
      · replace hF := cond_t hc54 hF
        obtain rfl := Option.some.inj hF
        refine k_begin [0] (Cls u m0 ([(b9, Obj.cells [(Value.bool r2.2), (Value.string (bs r5.1)), (Value.string (bs r5.2.1))].toArray 84 (0, 0))] :: [(b1, Obj.cells [(Value.bool false), (Value.string (bs ([]))), (Value.string (bs ([])))].toArray 84 (0, 0))] :: [])) (Cls u m0 ([(b9, Obj.cells [(Value.bool r2.2), (Value.string (bs r5.1)), (Value.string (bs r5.2.1))].toArray 84 (0, 0))] :: [])) (by kernel_rfl) ?_
        intro w hw
        replace ok := okdrew ok hw
        clear hw
        refine k_next (cl1 ⟨m0, _, le_m0, ok, ⟨memAt 0 rfl, memAt 1 rfl, trivial⟩⟩ ⟨m0, _, le_m0, ok, ⟨memAt 0 rfl, trivial⟩⟩) fun hT => ?_
        refine k_takeN 0 E rfl (by kernel_rfl) nP hT (y_loadAgg (cs := [(Value.bool r2.2), (Value.string (bs r5.1)), (Value.string (bs r5.2.1))]) agg_84 rfl rfl (Holds.cown 0 rfl rfl)) rfl rfl fun a E => ?_
        refine k_take 1 E rfl (by kernel_rfl) nP hT (y_move rfl) rfl rfl fun a E => ?_
        refine k_take 2 E rfl (by kernel_rfl) nP hT (y_not rfl) rfl rfl fun a E => ?_
        refine k_take 3 E rfl (by kernel_rfl) nP hT (y_move rfl) rfl rfl fun a E => ?_
        replace E := E.upd 71 hc54 rfl
        refine k_skip 4 false E rfl (by kernel_rfl) nP hT rfl rfl fun a E => ?_
        refine k_skip 5 false E rfl (by kernel_rfl) nP hT rfl rfl fun a E => ?_
        refine k_skip 6 false E rfl (by kernel_rfl) nP hT rfl rfl fun a E => ?_
        refine k_take 7 E rfl (by kernel_rfl) nP hT (y_pickT rfl rfl) rfl rfl fun a E => ?_
        refine k_all [8] (by kernel_rfl) rfl (one_c ?_)
        · refine wpOp_of_list (o := _) rfl ?_
          refine l_storeB E ok 1 rfl rfl rfl inf_84 rfl rfl ⟨rfl, rfl, rfl, trivial⟩ rfl rfl fun w ok => ?_
          refine wpList_nil ?_
          refine t_norm ?_
          refine k_next (cl2 (by kernel_rfl) ⟨m0, _, le_m0, ok, ⟨memAt 0 rfl, trivial⟩⟩) fun hT => ?_
          refine k_take 9 E rfl (by kernel_rfl) nP hT (y_assign rfl) rfl rfl fun a E => ?_
          refine k_done (by kernel_rfl) ?_
          exact ⟨rfl, ⟨ok, E.keep [2, 3], l7, l8⟩⟩
      replace hF := cond_f hc54 hF
      obtain ⟨r55, e56, hF⟩ := bnd hF
      obtain rfl := Option.some.inj hF
      refine k_begin [0] (Cls u m0 ([(b9, Obj.cells [(Value.bool r2.2), (Value.string (bs r5.1)), (Value.string (bs r5.2.1))].toArray 84 (0, 0))] :: [(b1, Obj.cells [(Value.bool false), (Value.string (bs ([]))), (Value.string (bs ([])))].toArray 84 (0, 0))] :: [])) (Cls u m0 ([(b9, Obj.cells [(Value.bool r2.2), (Value.string (bs r5.1)), (Value.string (bs r5.2.1))].toArray 84 (0, 0))] :: [])) (by kernel_rfl) ?_
      intro w hw
      replace ok := okdrew ok hw
      clear hw
      refine k_next (cl1 ⟨m0, _, le_m0, ok, ⟨memAt 0 rfl, memAt 1 rfl, trivial⟩⟩ ⟨m0, _, le_m0, ok, ⟨memAt 0 rfl, trivial⟩⟩) fun hT => ?_
      refine k_takeN 0 E rfl (by kernel_rfl) nP hT (y_loadAgg (cs := [(Value.bool r2.2), (Value.string (bs r5.1)), (Value.string (bs r5.2.1))]) agg_84 rfl rfl (Holds.cown 0 rfl rfl)) rfl rfl fun a E => ?_
      refine k_take 1 E rfl (by kernel_rfl) nP hT (y_move rfl) rfl rfl fun a E => ?_
      refine k_take 2 E rfl (by kernel_rfl) nP hT (y_not rfl) rfl rfl fun a E => ?_
      refine k_take 3 E rfl (by kernel_rfl) nP hT (y_move rfl) rfl rfl fun a E => ?_
      replace E := E.upd 71 hc54 rfl
      refine k_take 4 E rfl (by kernel_rfl) nP hT (y_loadAgg (cs := [(Value.bool r2.2), (Value.string (bs r5.1)), (Value.string (bs r5.2.1))]) agg_84 rfl rfl (Holds.cown 0 rfl rfl)) rfl rfl fun a E => ?_
      refine k_all [5] (by kernel_rfl) rfl (one_c ?_)
      · refine wpOp_of_list (o := _) rfl ?_
        refine l_call E go_57 rfl (decimal_number_zero_w N _ (Number.mk r2.2 r5.1 r5.2.1) ⟨rfl, l7, l8⟩ e56 hG ok) rfl rfl ?_
        rintro _ w ⟨rfl, ok⟩
        refine ⟨_, rfl, fun a E => ?_⟩
        refine wpList_nil ?_
        refine t_norm ?_
        refine k_next (cl1 ⟨m0, _, le_m0, ok, ⟨memAt 0 rfl, memAt 1 rfl, trivial⟩⟩ ⟨m0, _, le_m0, ok, ⟨memAt 0 rfl, trivial⟩⟩) fun hT => ?_
        refine k_take 6 E rfl (by kernel_rfl) nP hT (y_not rfl) rfl rfl fun a E => ?_
        refine k_take 7 E rfl (by kernel_rfl) nP hT (y_pickF rfl rfl) rfl rfl fun a E => ?_
        refine k_all [8] (by kernel_rfl) rfl (one_c ?_)
        · refine wpOp_of_list (o := _) rfl ?_
          refine l_storeB E ok 1 rfl rfl rfl inf_84 rfl rfl ⟨rfl, rfl, rfl, trivial⟩ rfl rfl fun w ok => ?_
          refine wpList_nil ?_
          refine t_norm ?_
          refine k_next (cl2 (by kernel_rfl) ⟨m0, _, le_m0, ok, ⟨memAt 0 rfl, trivial⟩⟩) fun hT => ?_
          refine k_take 9 E rfl (by kernel_rfl) nP hT (y_assign rfl) rfl rfl fun a E => ?_
          refine k_done (by kernel_rfl) ?_
          exact ⟨rfl, ⟨ok, E.keep [2, 3], l7, l8⟩⟩
  replace hF := cond_t hc15 hF
  replace E := E.upd 43 hc15 rfl
  refine l_val E ok (y_move rfl) rfl rfl fun a E => ?_
  obtain ⟨c16, e17, hF⟩ := bnd hF
  refine l_val E ok (y_index Tryd.underlying9 rfl rfl e17) rfl rfl fun a E => ?_
  refine l_val E ok (y_eql rfl rfl) rfl rfl fun a E => ?_
  refine l_val E ok (y_pickT rfl rfl) rfl rfl fun a E => ?_
  refine l_val E ok (y_pickF rfl rfl) rfl rfl fun a E => ?_
  refine l_val E ok (y_assign rfl) rfl rfl fun a E => ?_
  refine wpList_nil ?_
  refine t_norm ?_
  refine c_if E rfl (fun hc18 => ?_) (fun hc18 => ?_)
  · replace hF := cond_t hc18 hF
    refine wp_seq ?_
    refine c_region ?_
    refine l_val E ok (y_loadAgg (cs := [(Value.bool r2.2), (Value.string (bs r5.1)), (Value.string (bs r5.2.1))]) agg_84 rfl rfl (Holds.own 0 rfl rfl)) rfl rfl fun a E => ?_
    refine l_storeB E ok 1 rfl rfl rfl inf_84 rfl rfl ⟨rfl, rfl, rfl, trivial⟩ rfl rfl fun w ok => ?_
    refine l_val E ok (y_assign rfl) rfl rfl fun a E => ?_
    refine wpList_nil ?_
    refine t_norm ?_
    refine wp_ret ?_
    refine b_ret ?_
    refine t_ret ?_
    have hret : decimal_split_R u m0 S ((Number.mk r2.2 r5.1 r5.2.1), false) a w := ⟨m0, [(Value.bool r2.2), (Value.string (bs r5.1)), (Value.string (bs r5.2.1))], le_m0, ok.drop.drop, E.d, ⟨rv_c (cs := [(Value.bool r2.2), (Value.string (bs r5.1)), (Value.string (bs r5.2.1))]) E ok rfl agg_84 rfl (Holds.own 1 rfl rfl), rv_t E rfl, trivial⟩, ⟨rfl, l7, l8⟩⟩
    obtain rfl := Option.some.inj hF
    exact fin _ _ hret
  replace hF := cond_f hc18 hF
  refine wp_seq ?_
  refine c_region ?_
  refine l_val E ok (y_move rfl) rfl rfl fun a E => ?_
  refine l_val E ok (y_move rfl) rfl rfl fun a E => ?_
  refine bsplit r5.2.2 (fun hc19 => ?_) (fun hc19 => ?_)
  rotate_left
  · as_aux_lemma =>
      replace hF := cond_f hc19 hF
      replace E := E.upd 52 hc19 rfl
      iterate 3 refine l_skip E rfl rfl fun a E => ?_
      refine l_val E ok (y_pickF rfl rfl) rfl rfl fun a E => ?_
      refine l_val E ok (y_move rfl) rfl rfl fun a E => ?_
      refine l_val E ok (y_move rfl) rfl rfl fun a E => ?_
      refine l_val E ok (y_slen Tryd.underlying9 rfl) rfl rfl fun a E => ?_
      refine l_val E ok (y_gtr rfl rfl) rfl rfl fun a E => ?_
      refine l_val E ok (y_pickF rfl rfl) rfl rfl fun a E => ?_
      refine l_val E ok (y_move rfl) rfl rfl fun a E => ?_
      refine bsplit (decide ((r5.2.1.length : Int) > 6)) (fun hc33 => ?_) (fun hc33 => ?_)
      · replace hF := cond_t hc33 hF
        replace E := E.upd 62 hc33 rfl
        iterate 3 refine l_skip E rfl rfl fun a E => ?_
        refine l_val E ok (y_pickT rfl rfl) rfl rfl fun a E => ?_
        refine l_val E ok (y_assign rfl) rfl rfl fun a E => ?_
        refine wpList_nil ?_
        refine t_norm ?_
        refine c_if E rfl (fun _ => ?_) (fun h => by cases h)
        refine wp_seq ?_
        refine c_region ?_
        refine l_val E ok (y_loadAgg (cs := [(Value.bool r2.2), (Value.string (bs r5.1)), (Value.string (bs r5.2.1))]) agg_84 rfl rfl (Holds.own 0 rfl rfl)) rfl rfl fun a E => ?_
        refine l_storeB E ok 1 rfl rfl rfl inf_84 rfl rfl ⟨rfl, rfl, rfl, trivial⟩ rfl rfl fun w ok => ?_
        refine l_val E ok (y_assign rfl) rfl rfl fun a E => ?_
        refine wpList_nil ?_
        refine t_norm ?_
        refine wp_ret ?_
        refine b_ret ?_
        refine t_ret ?_
        have hret : decimal_split_R u m0 S ((Number.mk r2.2 r5.1 r5.2.1), false) a w := ⟨m0, [(Value.bool r2.2), (Value.string (bs r5.1)), (Value.string (bs r5.2.1))], le_m0, ok.drop.drop, E.d, ⟨rv_c (cs := [(Value.bool r2.2), (Value.string (bs r5.1)), (Value.string (bs r5.2.1))]) E ok rfl agg_84 rfl (Holds.own 1 rfl rfl), rv_t E rfl, trivial⟩, ⟨rfl, l7, l8⟩⟩
        obtain rfl := Option.some.inj hF
        exact fin _ _ hret
      replace hF := cond_f hc33 hF
      replace E := E.upd 62 hc33 rfl
      refine l_val E ok (y_move rfl) rfl rfl fun a E => ?_
      obtain ⟨r34, e35, hF⟩ := bnd hF
      refine l_call E go_56 rfl (decimal_digits_w N r5.2.1 l8 e35 hG ok) rfl rfl ?_
      rintro _ w ⟨rfl, ok⟩
      refine ⟨_, rfl, fun a E => ?_⟩
      refine l_val E ok (y_not rfl) rfl rfl fun a E => ?_
      refine l_val E ok (y_pickF rfl rfl) rfl rfl fun a E => ?_
      refine l_val E ok (y_assign rfl) rfl rfl fun a E => ?_
      refine wpList_nil ?_
      refine t_norm ?_
      refine c_if E rfl (fun hc36 => ?_) (fun hc36 => ?_)
      · replace hF := cond_t hc36 hF
        refine wp_seq ?_
        refine c_region ?_
        refine l_val E ok (y_loadAgg (cs := [(Value.bool r2.2), (Value.string (bs r5.1)), (Value.string (bs r5.2.1))]) agg_84 rfl rfl (Holds.own 0 rfl rfl)) rfl rfl fun a E => ?_
        refine l_storeB E ok 1 rfl rfl rfl inf_84 rfl rfl ⟨rfl, rfl, rfl, trivial⟩ rfl rfl fun w ok => ?_
        refine l_val E ok (y_assign rfl) rfl rfl fun a E => ?_
        refine wpList_nil ?_
        refine t_norm ?_
        refine wp_ret ?_
        refine b_ret ?_
        refine t_ret ?_
        have hret : decimal_split_R u m0 S ((Number.mk r2.2 r5.1 r5.2.1), false) a w := ⟨m0, [(Value.bool r2.2), (Value.string (bs r5.1)), (Value.string (bs r5.2.1))], le_m0, ok.drop.drop, E.d, ⟨rv_c (cs := [(Value.bool r2.2), (Value.string (bs r5.1)), (Value.string (bs r5.2.1))]) E ok rfl agg_84 rfl (Holds.own 1 rfl rfl), rv_t E rfl, trivial⟩, ⟨rfl, l7, l8⟩⟩
        obtain rfl := Option.some.inj hF
        exact fin _ _ hret
      replace hF := cond_f hc36 hF
      refine wp_skip ?_
      refine b_norm ?_
      refine t_norm ?_
      refine wp_seq ?_
      obtain ⟨o37, hJ, hF⟩ := bnd hF
      refine c_mono (Q' := fun e a w => e = .normal ∧ Ok u m0 ([(b9, Obj.cells [(Value.bool r2.2), (Value.string (bs r5.1)), (Value.string (bs r5.2.1))].toArray 84 (0, 0))] :: [(b1, Obj.cells [(Value.bool o37.2.negative), (Value.string (bs o37.2.whole)), (Value.string (bs o37.2.fraction))].toArray 84 (0, 0))] :: S) w ∧ Env 76 a [(2, (Value.pointer (some ⟨b1, 0, none⟩))), (3, (Value.bool o37.1))] ∧ o37.2.whole.length ≤ LIMS ∧ o37.2.fraction.length ≤ LIMS) ?_ ?_
      rotate_left
      · clear hJ
        intro e a w hO
        obtain ⟨rfl, ok, E, l43, l44⟩ := hO
        refine t_norm ?_
        refine wp_ret ?_
        have hret : decimal_split_R u m0 S (o37.2, o37.1) a w := ⟨m0, [(Value.bool o37.2.negative), (Value.string (bs o37.2.whole)), (Value.string (bs o37.2.fraction))], le_m0, ok.drop.drop, E.d, ⟨rv_c (cs := [(Value.bool o37.2.negative), (Value.string (bs o37.2.whole)), (Value.string (bs o37.2.fraction))]) E ok rfl agg_84 rfl (Holds.own 1 rfl rfl), rv_t E rfl, trivial⟩, ⟨rfl, l43, l44⟩⟩
        obtain rfl := Option.some.inj hF
        exact fin _ _ hret
      replace hF := hJ
      clear hJ
      refine bsplit (!r2.2) (fun hc40 => ?_) (fun hc40 => ?_)
      · replace hF := cond_t hc40 hF
        obtain rfl := Option.some.inj hF
        refine k_begin [0] (Cls u m0 ([(b9, Obj.cells [(Value.bool r2.2), (Value.string (bs r5.1)), (Value.string (bs r5.2.1))].toArray 84 (0, 0))] :: [(b1, Obj.cells [(Value.bool false), (Value.string (bs ([]))), (Value.string (bs ([])))].toArray 84 (0, 0))] :: [])) (Cls u m0 ([(b9, Obj.cells [(Value.bool r2.2), (Value.string (bs r5.1)), (Value.string (bs r5.2.1))].toArray 84 (0, 0))] :: [])) (by kernel_rfl) ?_
        intro w hw
        replace ok := okdrew ok hw
        clear hw
        refine k_next (cl1 ⟨m0, _, le_m0, ok, ⟨memAt 0 rfl, memAt 1 rfl, trivial⟩⟩ ⟨m0, _, le_m0, ok, ⟨memAt 0 rfl, trivial⟩⟩) fun hT => ?_
        refine k_takeN 0 E rfl (by kernel_rfl) nP hT (y_loadAgg (cs := [(Value.bool r2.2), (Value.string (bs r5.1)), (Value.string (bs r5.2.1))]) agg_84 rfl rfl (Holds.cown 0 rfl rfl)) rfl rfl fun a E => ?_
        refine k_take 1 E rfl (by kernel_rfl) nP hT (y_move rfl) rfl rfl fun a E => ?_
        refine k_take 2 E rfl (by kernel_rfl) nP hT (y_not rfl) rfl rfl fun a E => ?_
        refine k_take 3 E rfl (by kernel_rfl) nP hT (y_move rfl) rfl rfl fun a E => ?_
        replace E := E.upd 71 hc40 rfl
        refine k_skip 4 false E rfl (by kernel_rfl) nP hT rfl rfl fun a E => ?_
        refine k_skip 5 false E rfl (by kernel_rfl) nP hT rfl rfl fun a E => ?_
        refine k_skip 6 false E rfl (by kernel_rfl) nP hT rfl rfl fun a E => ?_
        refine k_take 7 E rfl (by kernel_rfl) nP hT (y_pickT rfl rfl) rfl rfl fun a E => ?_
        refine k_all [8] (by kernel_rfl) rfl (one_c ?_)
        · refine wpOp_of_list (o := _) rfl ?_
          refine l_storeB E ok 1 rfl rfl rfl inf_84 rfl rfl ⟨rfl, rfl, rfl, trivial⟩ rfl rfl fun w ok => ?_
          refine wpList_nil ?_
          refine t_norm ?_
          refine k_next (cl2 (by kernel_rfl) ⟨m0, _, le_m0, ok, ⟨memAt 0 rfl, trivial⟩⟩) fun hT => ?_
          refine k_take 9 E rfl (by kernel_rfl) nP hT (y_assign rfl) rfl rfl fun a E => ?_
          refine k_done (by kernel_rfl) ?_
          exact ⟨rfl, ⟨ok, E.keep [2, 3], l7, l8⟩⟩
      replace hF := cond_f hc40 hF
      obtain ⟨r41, e42, hF⟩ := bnd hF
      obtain rfl := Option.some.inj hF
      refine k_begin [0] (Cls u m0 ([(b9, Obj.cells [(Value.bool r2.2), (Value.string (bs r5.1)), (Value.string (bs r5.2.1))].toArray 84 (0, 0))] :: [(b1, Obj.cells [(Value.bool false), (Value.string (bs ([]))), (Value.string (bs ([])))].toArray 84 (0, 0))] :: [])) (Cls u m0 ([(b9, Obj.cells [(Value.bool r2.2), (Value.string (bs r5.1)), (Value.string (bs r5.2.1))].toArray 84 (0, 0))] :: [])) (by kernel_rfl) ?_
      intro w hw
      replace ok := okdrew ok hw
      clear hw
      refine k_next (cl1 ⟨m0, _, le_m0, ok, ⟨memAt 0 rfl, memAt 1 rfl, trivial⟩⟩ ⟨m0, _, le_m0, ok, ⟨memAt 0 rfl, trivial⟩⟩) fun hT => ?_
      refine k_takeN 0 E rfl (by kernel_rfl) nP hT (y_loadAgg (cs := [(Value.bool r2.2), (Value.string (bs r5.1)), (Value.string (bs r5.2.1))]) agg_84 rfl rfl (Holds.cown 0 rfl rfl)) rfl rfl fun a E => ?_
      refine k_take 1 E rfl (by kernel_rfl) nP hT (y_move rfl) rfl rfl fun a E => ?_
      refine k_take 2 E rfl (by kernel_rfl) nP hT (y_not rfl) rfl rfl fun a E => ?_
      refine k_take 3 E rfl (by kernel_rfl) nP hT (y_move rfl) rfl rfl fun a E => ?_
      replace E := E.upd 71 hc40 rfl
      refine k_take 4 E rfl (by kernel_rfl) nP hT (y_loadAgg (cs := [(Value.bool r2.2), (Value.string (bs r5.1)), (Value.string (bs r5.2.1))]) agg_84 rfl rfl (Holds.cown 0 rfl rfl)) rfl rfl fun a E => ?_
      refine k_all [5] (by kernel_rfl) rfl (one_c ?_)
      · refine wpOp_of_list (o := _) rfl ?_
        refine l_call E go_57 rfl (decimal_number_zero_w N _ (Number.mk r2.2 r5.1 r5.2.1) ⟨rfl, l7, l8⟩ e42 hG ok) rfl rfl ?_
        rintro _ w ⟨rfl, ok⟩
        refine ⟨_, rfl, fun a E => ?_⟩
        refine wpList_nil ?_
        refine t_norm ?_
        refine k_next (cl1 ⟨m0, _, le_m0, ok, ⟨memAt 0 rfl, memAt 1 rfl, trivial⟩⟩ ⟨m0, _, le_m0, ok, ⟨memAt 0 rfl, trivial⟩⟩) fun hT => ?_
        refine k_take 6 E rfl (by kernel_rfl) nP hT (y_not rfl) rfl rfl fun a E => ?_
        refine k_take 7 E rfl (by kernel_rfl) nP hT (y_pickF rfl rfl) rfl rfl fun a E => ?_
        refine k_all [8] (by kernel_rfl) rfl (one_c ?_)
        · refine wpOp_of_list (o := _) rfl ?_
          refine l_storeB E ok 1 rfl rfl rfl inf_84 rfl rfl ⟨rfl, rfl, rfl, trivial⟩ rfl rfl fun w ok => ?_
          refine wpList_nil ?_
          refine t_norm ?_
          refine k_next (cl2 (by kernel_rfl) ⟨m0, _, le_m0, ok, ⟨memAt 0 rfl, trivial⟩⟩) fun hT => ?_
          refine k_take 9 E rfl (by kernel_rfl) nP hT (y_assign rfl) rfl rfl fun a E => ?_
          refine k_done (by kernel_rfl) ?_
          exact ⟨rfl, ⟨ok, E.keep [2, 3], l7, l8⟩⟩
  replace hF := cond_t hc19 hF
  replace E := E.upd 52 hc19 rfl
  refine l_val E ok (y_move rfl) rfl rfl fun a E => ?_
  refine l_val E ok (y_slen Tryd.underlying9 rfl) rfl rfl fun a E => ?_
  refine l_val E ok (y_eql rfl rfl) rfl rfl fun a E => ?_
  refine l_val E ok (y_pickT rfl rfl) rfl rfl fun a E => ?_
  refine l_val E ok (y_move rfl) rfl rfl fun a E => ?_
  refine bsplit ((r5.2.1.length : Int) == 0) (fun hc20 => ?_) (fun hc20 => ?_)
  · replace hF := cond_t hc20 hF
    replace E := E.upd 57 hc20 rfl
    iterate 3 refine l_skip E rfl rfl fun a E => ?_
    refine l_val E ok (y_pickT rfl rfl) rfl rfl fun a E => ?_
    refine l_val E ok (y_move rfl) rfl rfl fun a E => ?_
    iterate 3 refine l_skip E rfl rfl fun a E => ?_
    refine l_val E ok (y_pickT rfl rfl) rfl rfl fun a E => ?_
    refine l_val E ok (y_assign rfl) rfl rfl fun a E => ?_
    refine wpList_nil ?_
    refine t_norm ?_
    refine c_if E rfl (fun _ => ?_) (fun h => by cases h)
    refine wp_seq ?_
    refine c_region ?_
    refine l_val E ok (y_loadAgg (cs := [(Value.bool r2.2), (Value.string (bs r5.1)), (Value.string (bs r5.2.1))]) agg_84 rfl rfl (Holds.own 0 rfl rfl)) rfl rfl fun a E => ?_
    refine l_storeB E ok 1 rfl rfl rfl inf_84 rfl rfl ⟨rfl, rfl, rfl, trivial⟩ rfl rfl fun w ok => ?_
    refine l_val E ok (y_assign rfl) rfl rfl fun a E => ?_
    refine wpList_nil ?_
    refine t_norm ?_
    refine wp_ret ?_
    refine b_ret ?_
    refine t_ret ?_
    have hret : decimal_split_R u m0 S ((Number.mk r2.2 r5.1 r5.2.1), false) a w := ⟨m0, [(Value.bool r2.2), (Value.string (bs r5.1)), (Value.string (bs r5.2.1))], le_m0, ok.drop.drop, E.d, ⟨rv_c (cs := [(Value.bool r2.2), (Value.string (bs r5.1)), (Value.string (bs r5.2.1))]) E ok rfl agg_84 rfl (Holds.own 1 rfl rfl), rv_t E rfl, trivial⟩, ⟨rfl, l7, l8⟩⟩
    obtain rfl := Option.some.inj hF
    exact fin _ _ hret
  replace hF := cond_f hc20 hF
  replace E := E.upd 57 hc20 rfl
  refine l_val E ok (y_move rfl) rfl rfl fun a E => ?_
  refine l_val E ok (y_slen Tryd.underlying9 rfl) rfl rfl fun a E => ?_
  refine l_val E ok (y_gtr rfl rfl) rfl rfl fun a E => ?_
  refine l_val E ok (y_pickF rfl rfl) rfl rfl fun a E => ?_
  refine l_val E ok (y_move rfl) rfl rfl fun a E => ?_
  refine bsplit (decide ((r5.2.1.length : Int) > 6)) (fun hc21 => ?_) (fun hc21 => ?_)
  · replace hF := cond_t hc21 hF
    replace E := E.upd 62 hc21 rfl
    iterate 3 refine l_skip E rfl rfl fun a E => ?_
    refine l_val E ok (y_pickT rfl rfl) rfl rfl fun a E => ?_
    refine l_val E ok (y_assign rfl) rfl rfl fun a E => ?_
    refine wpList_nil ?_
    refine t_norm ?_
    refine c_if E rfl (fun _ => ?_) (fun h => by cases h)
    refine wp_seq ?_
    refine c_region ?_
    refine l_val E ok (y_loadAgg (cs := [(Value.bool r2.2), (Value.string (bs r5.1)), (Value.string (bs r5.2.1))]) agg_84 rfl rfl (Holds.own 0 rfl rfl)) rfl rfl fun a E => ?_
    refine l_storeB E ok 1 rfl rfl rfl inf_84 rfl rfl ⟨rfl, rfl, rfl, trivial⟩ rfl rfl fun w ok => ?_
    refine l_val E ok (y_assign rfl) rfl rfl fun a E => ?_
    refine wpList_nil ?_
    refine t_norm ?_
    refine wp_ret ?_
    refine b_ret ?_
    refine t_ret ?_
    have hret : decimal_split_R u m0 S ((Number.mk r2.2 r5.1 r5.2.1), false) a w := ⟨m0, [(Value.bool r2.2), (Value.string (bs r5.1)), (Value.string (bs r5.2.1))], le_m0, ok.drop.drop, E.d, ⟨rv_c (cs := [(Value.bool r2.2), (Value.string (bs r5.1)), (Value.string (bs r5.2.1))]) E ok rfl agg_84 rfl (Holds.own 1 rfl rfl), rv_t E rfl, trivial⟩, ⟨rfl, l7, l8⟩⟩
    obtain rfl := Option.some.inj hF
    exact fin _ _ hret
  replace hF := cond_f hc21 hF
  replace E := E.upd 62 hc21 rfl
  refine l_val E ok (y_move rfl) rfl rfl fun a E => ?_
  obtain ⟨r22, e23, hF⟩ := bnd hF
  refine l_call E go_56 rfl (decimal_digits_w N r5.2.1 l8 e23 hG ok) rfl rfl ?_
  rintro _ w ⟨rfl, ok⟩
  refine ⟨_, rfl, fun a E => ?_⟩
  refine l_val E ok (y_not rfl) rfl rfl fun a E => ?_
  refine l_val E ok (y_pickF rfl rfl) rfl rfl fun a E => ?_
  refine l_val E ok (y_assign rfl) rfl rfl fun a E => ?_
  refine wpList_nil ?_
  refine t_norm ?_
  refine c_if E rfl (fun hc24 => ?_) (fun hc24 => ?_)
  · replace hF := cond_t hc24 hF
    refine wp_seq ?_
    refine c_region ?_
    refine l_val E ok (y_loadAgg (cs := [(Value.bool r2.2), (Value.string (bs r5.1)), (Value.string (bs r5.2.1))]) agg_84 rfl rfl (Holds.own 0 rfl rfl)) rfl rfl fun a E => ?_
    refine l_storeB E ok 1 rfl rfl rfl inf_84 rfl rfl ⟨rfl, rfl, rfl, trivial⟩ rfl rfl fun w ok => ?_
    refine l_val E ok (y_assign rfl) rfl rfl fun a E => ?_
    refine wpList_nil ?_
    refine t_norm ?_
    refine wp_ret ?_
    refine b_ret ?_
    refine t_ret ?_
    have hret : decimal_split_R u m0 S ((Number.mk r2.2 r5.1 r5.2.1), false) a w := ⟨m0, [(Value.bool r2.2), (Value.string (bs r5.1)), (Value.string (bs r5.2.1))], le_m0, ok.drop.drop, E.d, ⟨rv_c (cs := [(Value.bool r2.2), (Value.string (bs r5.1)), (Value.string (bs r5.2.1))]) E ok rfl agg_84 rfl (Holds.own 1 rfl rfl), rv_t E rfl, trivial⟩, ⟨rfl, l7, l8⟩⟩
    obtain rfl := Option.some.inj hF
    exact fin _ _ hret
  replace hF := cond_f hc24 hF
  refine wp_skip ?_
  refine b_norm ?_
  refine t_norm ?_
  refine wp_seq ?_
  obtain ⟨o25, hJ, hF⟩ := bnd hF
  refine c_mono (Q' := fun e a w => e = .normal ∧ Ok u m0 ([(b9, Obj.cells [(Value.bool r2.2), (Value.string (bs r5.1)), (Value.string (bs r5.2.1))].toArray 84 (0, 0))] :: [(b1, Obj.cells [(Value.bool o25.2.negative), (Value.string (bs o25.2.whole)), (Value.string (bs o25.2.fraction))].toArray 84 (0, 0))] :: S) w ∧ Env 76 a [(2, (Value.pointer (some ⟨b1, 0, none⟩))), (3, (Value.bool o25.1))] ∧ o25.2.whole.length ≤ LIMS ∧ o25.2.fraction.length ≤ LIMS) ?_ ?_
  rotate_left
  · clear hJ
    intro e a w hO
    obtain ⟨rfl, ok, E, l31, l32⟩ := hO
    refine t_norm ?_
    refine wp_ret ?_
    have hret : decimal_split_R u m0 S (o25.2, o25.1) a w := ⟨m0, [(Value.bool o25.2.negative), (Value.string (bs o25.2.whole)), (Value.string (bs o25.2.fraction))], le_m0, ok.drop.drop, E.d, ⟨rv_c (cs := [(Value.bool o25.2.negative), (Value.string (bs o25.2.whole)), (Value.string (bs o25.2.fraction))]) E ok rfl agg_84 rfl (Holds.own 1 rfl rfl), rv_t E rfl, trivial⟩, ⟨rfl, l31, l32⟩⟩
    obtain rfl := Option.some.inj hF
    exact fin _ _ hret
  replace hF := hJ
  clear hJ
  refine bsplit (!r2.2) (fun hc28 => ?_) (fun hc28 => ?_)
  · replace hF := cond_t hc28 hF
    obtain rfl := Option.some.inj hF
    refine k_begin [0] (Cls u m0 ([(b9, Obj.cells [(Value.bool r2.2), (Value.string (bs r5.1)), (Value.string (bs r5.2.1))].toArray 84 (0, 0))] :: [(b1, Obj.cells [(Value.bool false), (Value.string (bs ([]))), (Value.string (bs ([])))].toArray 84 (0, 0))] :: [])) (Cls u m0 ([(b9, Obj.cells [(Value.bool r2.2), (Value.string (bs r5.1)), (Value.string (bs r5.2.1))].toArray 84 (0, 0))] :: [])) (by kernel_rfl) ?_
    intro w hw
    replace ok := okdrew ok hw
    clear hw
    refine k_next (cl1 ⟨m0, _, le_m0, ok, ⟨memAt 0 rfl, memAt 1 rfl, trivial⟩⟩ ⟨m0, _, le_m0, ok, ⟨memAt 0 rfl, trivial⟩⟩) fun hT => ?_
    refine k_takeN 0 E rfl (by kernel_rfl) nP hT (y_loadAgg (cs := [(Value.bool r2.2), (Value.string (bs r5.1)), (Value.string (bs r5.2.1))]) agg_84 rfl rfl (Holds.cown 0 rfl rfl)) rfl rfl fun a E => ?_
    refine k_take 1 E rfl (by kernel_rfl) nP hT (y_move rfl) rfl rfl fun a E => ?_
    refine k_take 2 E rfl (by kernel_rfl) nP hT (y_not rfl) rfl rfl fun a E => ?_
    refine k_take 3 E rfl (by kernel_rfl) nP hT (y_move rfl) rfl rfl fun a E => ?_
    replace E := E.upd 71 hc28 rfl
    refine k_skip 4 false E rfl (by kernel_rfl) nP hT rfl rfl fun a E => ?_
    refine k_skip 5 false E rfl (by kernel_rfl) nP hT rfl rfl fun a E => ?_
    refine k_skip 6 false E rfl (by kernel_rfl) nP hT rfl rfl fun a E => ?_
    refine k_take 7 E rfl (by kernel_rfl) nP hT (y_pickT rfl rfl) rfl rfl fun a E => ?_
    refine k_all [8] (by kernel_rfl) rfl (one_c ?_)
    · refine wpOp_of_list (o := _) rfl ?_
      refine l_storeB E ok 1 rfl rfl rfl inf_84 rfl rfl ⟨rfl, rfl, rfl, trivial⟩ rfl rfl fun w ok => ?_
      refine wpList_nil ?_
      refine t_norm ?_
      refine k_next (cl2 (by kernel_rfl) ⟨m0, _, le_m0, ok, ⟨memAt 0 rfl, trivial⟩⟩) fun hT => ?_
      refine k_take 9 E rfl (by kernel_rfl) nP hT (y_assign rfl) rfl rfl fun a E => ?_
      refine k_done (by kernel_rfl) ?_
      exact ⟨rfl, ⟨ok, E.keep [2, 3], l7, l8⟩⟩
  replace hF := cond_f hc28 hF
  obtain ⟨r29, e30, hF⟩ := bnd hF
  obtain rfl := Option.some.inj hF
  refine k_begin [0] (Cls u m0 ([(b9, Obj.cells [(Value.bool r2.2), (Value.string (bs r5.1)), (Value.string (bs r5.2.1))].toArray 84 (0, 0))] :: [(b1, Obj.cells [(Value.bool false), (Value.string (bs ([]))), (Value.string (bs ([])))].toArray 84 (0, 0))] :: [])) (Cls u m0 ([(b9, Obj.cells [(Value.bool r2.2), (Value.string (bs r5.1)), (Value.string (bs r5.2.1))].toArray 84 (0, 0))] :: [])) (by kernel_rfl) ?_
  intro w hw
  replace ok := okdrew ok hw
  clear hw
  refine k_next (cl1 ⟨m0, _, le_m0, ok, ⟨memAt 0 rfl, memAt 1 rfl, trivial⟩⟩ ⟨m0, _, le_m0, ok, ⟨memAt 0 rfl, trivial⟩⟩) fun hT => ?_
  refine k_takeN 0 E rfl (by kernel_rfl) nP hT (y_loadAgg (cs := [(Value.bool r2.2), (Value.string (bs r5.1)), (Value.string (bs r5.2.1))]) agg_84 rfl rfl (Holds.cown 0 rfl rfl)) rfl rfl fun a E => ?_
  refine k_take 1 E rfl (by kernel_rfl) nP hT (y_move rfl) rfl rfl fun a E => ?_
  refine k_take 2 E rfl (by kernel_rfl) nP hT (y_not rfl) rfl rfl fun a E => ?_
  refine k_take 3 E rfl (by kernel_rfl) nP hT (y_move rfl) rfl rfl fun a E => ?_
  replace E := E.upd 71 hc28 rfl
  refine k_take 4 E rfl (by kernel_rfl) nP hT (y_loadAgg (cs := [(Value.bool r2.2), (Value.string (bs r5.1)), (Value.string (bs r5.2.1))]) agg_84 rfl rfl (Holds.cown 0 rfl rfl)) rfl rfl fun a E => ?_
  refine k_all [5] (by kernel_rfl) rfl (one_c ?_)
  · refine wpOp_of_list (o := _) rfl ?_
    refine l_call E go_57 rfl (decimal_number_zero_w N _ (Number.mk r2.2 r5.1 r5.2.1) ⟨rfl, l7, l8⟩ e30 hG ok) rfl rfl ?_
    rintro _ w ⟨rfl, ok⟩
    refine ⟨_, rfl, fun a E => ?_⟩
    refine wpList_nil ?_
    refine t_norm ?_
    refine k_next (cl1 ⟨m0, _, le_m0, ok, ⟨memAt 0 rfl, memAt 1 rfl, trivial⟩⟩ ⟨m0, _, le_m0, ok, ⟨memAt 0 rfl, trivial⟩⟩) fun hT => ?_
    refine k_take 6 E rfl (by kernel_rfl) nP hT (y_not rfl) rfl rfl fun a E => ?_
    refine k_take 7 E rfl (by kernel_rfl) nP hT (y_pickF rfl rfl) rfl rfl fun a E => ?_
    refine k_all [8] (by kernel_rfl) rfl (one_c ?_)
    · refine wpOp_of_list (o := _) rfl ?_
      refine l_storeB E ok 1 rfl rfl rfl inf_84 rfl rfl ⟨rfl, rfl, rfl, trivial⟩ rfl rfl fun w ok => ?_
      refine wpList_nil ?_
      refine t_norm ?_
      refine k_next (cl2 (by kernel_rfl) ⟨m0, _, le_m0, ok, ⟨memAt 0 rfl, trivial⟩⟩) fun hT => ?_
      refine k_take 9 E rfl (by kernel_rfl) nP hT (y_assign rfl) rfl rfl fun a E => ?_
      refine k_done (by kernel_rfl) ?_
      exact ⟨rfl, ⟨ok, E.keep [2, 3], l7, l8⟩⟩

def decimal_Valid_R (u : World) (m0 : Mem) (S : Segs) (r : Bool) (a : Act) (w : World) : Prop :=
  Ok u m0 S w ∧ a.defers = [] ∧ RVs Tryd.prog a w [.t 2 (.bool r)]
set_option maxHeartbeats 4000000 in
set_option maxRecDepth 100000 in
theorem decimal_Valid_w {u : World} {m0 : Mem} {S : Segs} {w : World} (N : Nat) (s_0 : List UInt8) (ls_0 : s_0.length ≤ LIMS) {r : Bool} (hF : decimal_Valid N s_0 = some r) (hG : Glob u) (ok : Ok u m0 S w) :
    Calls Tryd.prog 43 [Value.string (bs s_0)].toArray w fun e w' => (e = .returned (.bool r) ∧ Ok u m0 S w') := by
  have hb0 := ok.base
  have le_m0 := Mem.le.refl m0
  unfold decimal_Valid at hF
  have fin : ∀ a w, decimal_Valid_R u m0 S r a w → bodyPost Tryd.prog Tryd.f43 (fun e w' => (e = .returned (.bool r) ∧ Ok u m0 S w')) .ret a w := by
    intro a w h
    obtain ⟨ok, hd, hrv⟩ := h
    exact c_ret2 [.t 2 (.bool r)] hd rfl hrv ⟨rfl, ok⟩
  refine enter Tryd.func43 rfl rfl rfl fun a E => ?_
  refine wp_seq ?_
  refine c_region ?_
  refine l_val E ok (y_assign rfl) rfl rfl fun a E => ?_
  refine wpList_nil ?_
  refine t_norm ?_
  refine wp_seq ?_
  refine c_region ?_
  refine l_val E ok (y_move rfl) rfl rfl fun a E => ?_
  obtain ⟨r1, e2, hF⟩ := bnd hF
  refine l_call E go_50 rfl (decimal_split_w N s_0 ls_0 e2 hG ok) rfl rfl ?_
  rintro _ w ⟨m3, vs4, rfl, hle, ok, h5⟩
  have le_m0 := le_m0.trans hle
  obtain ⟨rfl, l6, l7⟩ := h5
  refine ⟨_, rfl, fun a E => ?_⟩
  refine l_val E ok (y_move rfl) rfl rfl fun a E => ?_
  refine l_val E ok (y_extract rfl rfl) rfl rfl fun a E => ?_
  refine l_val E ok (y_extract rfl rfl) rfl rfl fun a E => ?_
  refine l_alloc E ok zero_84 rfl rfl fun b8 a w E ok => ?_
  refine l_storeB E ok 0 rfl rfl rfl inf_84 rfl rfl ⟨rfl, rfl, rfl, trivial⟩ rfl rfl fun w ok => ?_
  refine l_val E ok (y_assign rfl) rfl rfl fun a E => ?_
  refine wpList_nil ?_
  refine t_norm ?_
  refine wp_seq ?_
  refine c_region ?_
  refine l_val E ok (y_move rfl) rfl rfl fun a E => ?_
  refine l_val E ok (y_assign rfl) rfl rfl fun a E => ?_
  refine wpList_nil ?_
  refine t_norm ?_
  refine wp_ret ?_
  have hret : decimal_Valid_R u m0 S r1.2 a w := ⟨(ok.drop).down hb0 le_m0, E.d, ⟨rv_t E rfl, trivial⟩⟩
  obtain rfl := Option.some.inj hF
  exact fin _ _ hret

def verify_key_R (u : World) (m0 : Mem) (S : Segs) (r : Bool) (a : Act) (w : World) : Prop :=
  Ok u m0 S w ∧ a.defers = [] ∧ RVs Tryd.prog a w [.t 4 (.bool r)]
set_option maxHeartbeats 4000000 in
set_option maxRecDepth 100000 in
theorem verify_key_w {u : World} {m0 : Mem} {S : Segs} {w : World} (N : Nat) (kind_0 : Int) (rkind_0 : InR .i64 kind_0) (s_1 : List UInt8) (ls_1 : s_1.length ≤ LIMS) {r : Bool} (hF : verify_key N kind_0 s_1 = some r) (hG : Glob u) (ok : Ok u m0 S w) :
    Calls Tryd.prog 32 [Value.int .i64 kind_0, Value.string (bs s_1)].toArray w fun e w' => (e = .returned (.bool r) ∧ Ok u m0 S w') := by
  have hb0 := ok.base
  have le_m0 := Mem.le.refl m0
  unfold verify_key at hF
  have fin : ∀ a w, verify_key_R u m0 S r a w → bodyPost Tryd.prog Tryd.f32 (fun e w' => (e = .returned (.bool r) ∧ Ok u m0 S w')) .ret a w := by
    intro a w h
    obtain ⟨ok, hd, hrv⟩ := h
    exact c_ret2 [.t 4 (.bool r)] hd rfl hrv ⟨rfl, ok⟩
  refine enter Tryd.func32 rfl rfl rfl fun a E => ?_
  refine wp_seq ?_
  refine c_region ?_
  refine l_val E ok (y_assign rfl) rfl rfl fun a E => ?_
  refine wpList_nil ?_
  refine t_norm ?_
  refine wp_seq ?_
  refine wp_seq ?_
  refine c_region ?_
  refine l_val E ok (y_move rfl) rfl rfl fun a E => ?_
  refine l_val E ok (y_eql rfl rfl) rfl rfl fun a E => ?_
  refine wpList_nil ?_
  refine t_norm ?_
  refine c_if E rfl (fun hc1 => ?_) (fun hc1 => ?_)
  · replace hF := cond_t hc1 hF
    refine wp_seq ?_
    refine c_region ?_
    refine l_val E ok (y_move rfl) rfl rfl fun a E => ?_
    obtain ⟨r2, e3, hF⟩ := bnd hF
    refine l_call E go_19 rfl (token_Name_w N s_1 ls_1 e3 hG ok) rfl rfl ?_
    rintro _ w ⟨rfl, ok⟩
    refine ⟨_, rfl, fun a E => ?_⟩
    refine l_val E ok (y_assign rfl) rfl rfl fun a E => ?_
    refine wpList_nil ?_
    refine t_norm ?_
    refine wp_ret ?_
    refine t_ret ?_
    have hret : verify_key_R u m0 S r2 a w := ⟨ok, E.d, ⟨rv_t E rfl, trivial⟩⟩
    obtain rfl := Option.some.inj hF
    exact fin _ _ hret
  replace hF := cond_f hc1 hF
  refine wp_skip ?_
  refine t_norm ?_
  refine wp_seq ?_
  refine c_region ?_
  refine l_val E ok (y_move rfl) rfl rfl fun a E => ?_
  obtain ⟨r4, e5, hF⟩ := bnd hF
  refine l_call E go_41 rfl (strings_CutPrefix_w N s_1 ls_1 ([61]) (show ([61] : List UInt8).length ≤ LIMS by decide) e5 hG ok) rfl rfl ?_
  rintro _ w ⟨⟨rfl, ok⟩, l6⟩
  refine ⟨_, rfl, fun a E => ?_⟩
  refine l_val E ok (y_move rfl) rfl rfl fun a E => ?_
  refine l_val E ok (y_extract rfl rfl) rfl rfl fun a E => ?_
  refine l_val E ok (y_extract rfl rfl) rfl rfl fun a E => ?_
  refine l_val E ok (y_assign rfl) rfl rfl fun a E => ?_
  refine l_val E ok (y_assign rfl) rfl rfl fun a E => ?_
  refine wpList_nil ?_
  refine t_norm ?_
  refine wp_seq ?_
  refine c_region ?_
  refine l_val E ok (y_move rfl) rfl rfl fun a E => ?_
  obtain ⟨r7, e8, hF⟩ := bnd hF
  refine l_call E go_42 rfl (verify_class_w N s_1 ls_1 e8 hG ok) rfl rfl ?_
  rintro _ w ⟨rfl, ok⟩
  refine ⟨_, rfl, fun a E => ?_⟩
  refine l_val E ok (y_move rfl) rfl rfl fun a E => ?_
  refine bsplit r7 (fun hc9 => ?_) (fun hc9 => ?_)
  · replace hF := cond_t hc9 hF
    replace E := E.upd 18 hc9 rfl
    iterate 5 refine l_skip E rfl rfl fun a E => ?_
    refine l_val E ok (y_pickT rfl rfl) rfl rfl fun a E => ?_
    refine l_val E ok (y_assign rfl) rfl rfl fun a E => ?_
    refine wpList_nil ?_
    refine t_norm ?_
    refine wp_ret ?_
    have hret : verify_key_R u m0 S true a w := ⟨ok, E.d, ⟨rv_t E rfl, trivial⟩⟩
    obtain rfl := Option.some.inj hF
    exact fin _ _ hret
  replace hF := cond_f hc9 hF
  replace E := E.upd 18 hc9 rfl
  refine l_val E ok (y_move rfl) rfl rfl fun a E => ?_
  refine l_val E ok (y_move rfl) rfl rfl fun a E => ?_
  refine bsplit r4.2 (fun hc10 => ?_) (fun hc10 => ?_)
  rotate_left
  · replace hF := cond_f hc10 hF
    replace E := E.upd 20 hc10 rfl
    iterate 2 refine l_skip E rfl rfl fun a E => ?_
    refine l_val E ok (y_pickF rfl rfl) rfl rfl fun a E => ?_
    refine l_val E ok (y_pickF rfl rfl) rfl rfl fun a E => ?_
    refine l_val E ok (y_assign rfl) rfl rfl fun a E => ?_
    refine wpList_nil ?_
    refine t_norm ?_
    refine wp_ret ?_
    have hret : verify_key_R u m0 S false a w := ⟨ok, E.d, ⟨rv_t E rfl, trivial⟩⟩
    obtain rfl := Option.some.inj hF
    exact fin _ _ hret
  replace hF := cond_t hc10 hF
  replace E := E.upd 20 hc10 rfl
  refine l_val E ok (y_move rfl) rfl rfl fun a E => ?_
  obtain ⟨r11, e12, hF⟩ := bnd hF
  refine l_call E go_43 rfl (decimal_Valid_w N r4.1 l6 e12 hG ok) rfl rfl ?_
  rintro _ w ⟨rfl, ok⟩
  refine ⟨_, rfl, fun a E => ?_⟩
  refine l_val E ok (y_pickT rfl rfl) rfl rfl fun a E => ?_
  refine l_val E ok (y_pickF rfl rfl) rfl rfl fun a E => ?_
  refine l_val E ok (y_assign rfl) rfl rfl fun a E => ?_
  refine wpList_nil ?_
  refine t_norm ?_
  refine wp_ret ?_
  have hret : verify_key_R u m0 S r11 a w := ⟨ok, E.d, ⟨rv_t E rfl, trivial⟩⟩
  obtain rfl := Option.some.inj hF
  exact fin _ _ hret

def syntax_Selection_R (u : World) (m0 : Mem) (S : Segs) (r : Bool) (a : Act) (w : World) : Prop :=
  Ok u m0 S w ∧ a.defers = [] ∧ RVs Tryd.prog a w [.t 2 (.bool r)]
set_option maxHeartbeats 4000000 in
set_option maxRecDepth 100000 in
theorem syntax_Selection_w {u : World} {m0 : Mem} {S : Segs} {w : World} (N : Nat) (kind_0 : Int) (rkind_0 : InR .i64 kind_0) {r : Bool} (hF : syntax_Selection N kind_0 = some r) (hG : Glob u) (ok : Ok u m0 S w) :
    Calls Tryd.prog 33 [Value.int .i64 kind_0].toArray w fun e w' => (e = .returned (.bool r) ∧ Ok u m0 S w') := by
  have hb0 := ok.base
  have le_m0 := Mem.le.refl m0
  unfold syntax_Selection at hF
  have fin : ∀ a w, syntax_Selection_R u m0 S r a w → bodyPost Tryd.prog Tryd.f33 (fun e w' => (e = .returned (.bool r) ∧ Ok u m0 S w')) .ret a w := by
    intro a w h
    obtain ⟨ok, hd, hrv⟩ := h
    exact c_ret2 [.t 2 (.bool r)] hd rfl hrv ⟨rfl, ok⟩
  refine enter Tryd.func33 rfl rfl rfl fun a E => ?_
  refine wp_seq ?_
  refine c_region ?_
  refine l_val E ok (y_assign rfl) rfl rfl fun a E => ?_
  refine wpList_nil ?_
  refine t_norm ?_
  refine wp_seq ?_
  refine c_region ?_
  refine l_val E ok (y_move rfl) rfl rfl fun a E => ?_
  refine l_val E ok (y_geq rfl rfl) rfl rfl fun a E => ?_
  refine l_val E ok (y_move rfl) rfl rfl fun a E => ?_
  refine bsplit (decide (kind_0 ≥ 7)) (fun hc1 => ?_) (fun hc1 => ?_)
  · replace hF := cond_t hc1 hF
    replace E := E.upd 5 hc1 rfl
    refine l_val E ok (y_move rfl) rfl rfl fun a E => ?_
    refine l_val E ok (y_leq rfl rfl) rfl rfl fun a E => ?_
    refine l_val E ok (y_pickT rfl rfl) rfl rfl fun a E => ?_
    refine l_val E ok (y_assign rfl) rfl rfl fun a E => ?_
    refine wpList_nil ?_
    refine t_norm ?_
    refine wp_ret ?_
    have hret : syntax_Selection_R u m0 S (decide (kind_0 ≤ 9)) a w := ⟨ok, E.d, ⟨rv_t E rfl, trivial⟩⟩
    obtain rfl := Option.some.inj hF
    exact fin _ _ hret
  replace hF := cond_f hc1 hF
  replace E := E.upd 5 hc1 rfl
  iterate 2 refine l_skip E rfl rfl fun a E => ?_
  refine l_val E ok (y_pickF rfl rfl) rfl rfl fun a E => ?_
  refine l_val E ok (y_assign rfl) rfl rfl fun a E => ?_
  refine wpList_nil ?_
  refine t_norm ?_
  refine wp_ret ?_
  have hret : syntax_Selection_R u m0 S false a w := ⟨ok, E.d, ⟨rv_t E rfl, trivial⟩⟩
  obtain rfl := Option.some.inj hF
  exact fin _ _ hret

def verify_alternatives_R (u : World) (m0 : Mem) (S : Segs) (r : Bool) (a : Act) (w : World) : Prop :=
  Ok u m0 S w ∧ a.defers = [] ∧ RVs Tryd.prog a w [.t 4 (.bool r)]
set_option maxHeartbeats 4000000 in
set_option maxRecDepth 100000 in
theorem verify_alternatives_w {u : World} {m0 : Mem} {S : Segs} {w : World} (N : Nat) (vc_0 : List Value) (c_0 : Code) (hc_0 : pCode m0 vc_0 c_0) (i_1 : Int) (ri_1 : InR .i64 i_1) {r : Bool} (hF : verify_alternatives N c_0 i_1 = some r) (hG : Glob u) (ok : Ok u m0 S w) :
    Calls Tryd.prog 21 [.agg vc_0.toArray, Value.int .i64 i_1].toArray w fun e w' => (e = .returned (.bool r) ∧ Ok u m0 S w') := by
  obtain ⟨c1, c3, rfl, h2, h4⟩ := hc_0
  have hb0 := ok.base
  have le_m0 := Mem.le.refl m0
  unfold verify_alternatives at hF
  have fin : ∀ a w, verify_alternatives_R u m0 S r a w → bodyPost Tryd.prog Tryd.f21 (fun e w' => (e = .returned (.bool r) ∧ Ok u m0 S w')) .ret a w := by
    intro a w h
    obtain ⟨ok, hd, hrv⟩ := h
    exact c_ret2 [.t 4 (.bool r)] hd rfl hrv ⟨rfl, ok⟩
  refine enter Tryd.func21 rfl rfl rfl fun a E => ?_
  refine wp_seq ?_
  refine c_region ?_
  refine l_box E ok rfl rfl rfl fun b5 a w E ok => ?_
  refine l_val E ok (y_assign rfl) rfl rfl fun a E => ?_
  refine wpList_nil ?_
  refine t_norm ?_
  refine wp_seq ?_
  refine c_region ?_
  refine l_val E ok (y_loadAgg (cs := [c1, c3]) agg_31 rfl rfl (Holds.own 0 rfl rfl)) rfl rfl fun a E => ?_
  refine l_val E ok (y_move rfl) rfl rfl fun a E => ?_
  obtain ⟨r6, e7, hF⟩ := bnd hF
  refine l_call E go_31 rfl (verify_cases_w N _ c_0 ⟨_, _, rfl, h2, h4⟩ i_1 ri_1 e7 hG ok) rfl rfl ?_
  rintro _ w ⟨m8, c9, rfl, hle, ok, h10⟩
  have le_m0 := le_m0.trans hle
  have h2 := (mL mS).up hle h2
  have h4 := (mL mIns).up hle h4
  refine ⟨_, rfl, fun a E => ?_⟩
  refine l_val E ok (y_assign rfl) rfl rfl fun a E => ?_
  refine wpList_nil ?_
  refine t_norm ?_
  refine wp_seq ?_
  refine c_region ?_
  refine l_makeMap kS (oneV pB) E ok rfl rfl fun c11 M12 a w E ok h13 => ?_
  refine l_val E ok (y_assign rfl) rfl rfl fun a E => ?_
  refine wpList_nil ?_
  refine t_norm ?_
  refine wp_seq ?_
  refine wp_seq ?_
  refine c_region ?_
  refine l_val E ok (y_move rfl) rfl rfl fun a E => ?_
  refine l_val E ok (y_lenL sl_29 h10 rfl) rfl rfl fun a E => ?_
  refine l_val E ok (y_move rfl) rfl rfl fun a E => ?_
  refine wpList_nil ?_
  refine t_norm ?_
  refine wp_block ?_
  obtain ⟨o19, hL, hF⟩ := bnd hF
  refine c_loop _ (fun (s : Int × (List (List UInt8 × Bool))) a w => ∃ c21 M22, Ok u m8 (M22 :: [(b5, Obj.cells [c1, c3].toArray 31 (0, 0))] :: S) w ∧ Env 60 a [(1, (Value.int .i64 i_1)), (2, (Value.pointer (some ⟨b5, 0, none⟩))), (5, c9), (6, c21), (13, c9), (14, (Value.int .i64 (r6.length : Int))), (15, (Value.int .i64 s.1))] ∧ InR .i64 s.1 ∧ OMap kS (oneV pB) m8 c21 s.2 M22) (fun (b : (((List (List UInt8 × Bool))) ⊕ Bool)) e a w => (Sum.elim (fun b95 => e = (.exit 0) ∧ ∃ c96 M97, Ok u m8 (M97 :: [(b5, Obj.cells [c1, c3].toArray 31 (0, 0))] :: S) w ∧ Env 60 a [(1, (Value.int .i64 i_1)), (2, (Value.pointer (some ⟨b5, 0, none⟩))), (5, c9), (6, c96)] ∧ OMap kS (oneV pB) m8 c96 b95 M97) (fun b99 => e = .ret ∧ verify_alternatives_R u m0 S b99 a w)) b) ?_ ?_ N _ a w hL ⟨c11, M12, ok, E.keep [1, 2, 5, 6, 13, 14, 15], (show InR .i64 (0) by decide), h13⟩
  rotate_left
  · as_aux_lemma =>
      intro e a w _ hO
      rcases o19 with o19 | o19
      rotate_left
      · replace hF := elim_r hF
        obtain ⟨rfl, hret⟩ := hO
        refine b_ret ?_
        refine t_ret ?_
        obtain rfl := Option.some.inj hF
        exact fin _ _ hret
      replace hF := elim_l hF
      obtain ⟨rfl, c70, M71, ok, E, h72⟩ := hO
      refine b_hit ?_
      refine t_norm ?_
      refine wp_seq ?_
      refine c_region ?_
      refine l_val E ok (y_fieldAddr fo_31_1 rfl) rfl rfl fun a E => ?_
      refine l_val E ok (y_load one_29 rfl (Holds.own 1 rfl rfl)) rfl rfl fun a E => ?_
      refine l_val E ok (y_move rfl) rfl rfl fun a E => ?_
      obtain ⟨x73, e74, hF⟩ := bnd hF
      obtain ⟨b75, o76, es77, hl78, rr79, at80, yy81⟩ := idxAt sl_29 h4 e74 (P := Tryd.prog) (X := .tmp 40) (I := .tmp 41) (kd := .i64) (ev_of E rfl) (ev_of E rfl)
      obtain ⟨rfl, r82, r83, r84, l85⟩ := rr79
      refine l_val E ok (yy81 _ _) rfl rfl fun a E => ?_
      refine l_val E ok (y_fieldAddr fo_41_2 rfl) rfl rfl fun a E => ?_
      refine l_val E ok (y_load one_3 rfl (Holds.ro (At.sub 2 1 at80))) rfl rfl fun a E => ?_
      obtain ⟨r86, e87, hF⟩ := bnd hF
      refine l_call E go_33 rfl (syntax_Selection_w N x73.B r84 e87 hG ok) rfl rfl ?_
      rintro _ w ⟨rfl, ok⟩
      refine ⟨_, rfl, fun a E => ?_⟩
      refine l_val E ok (y_move rfl) rfl rfl fun a E => ?_
      refine bsplit r86 (fun hc88 => ?_) (fun hc88 => ?_)
      rotate_left
      · replace hF := cond_f hc88 hF
        replace E := E.upd 46 hc88 rfl
        iterate 3 refine l_skip E rfl rfl fun a E => ?_
        refine l_val E ok (y_pickF rfl rfl) rfl rfl fun a E => ?_
        refine l_val E ok (y_move rfl) rfl rfl fun a E => ?_
        iterate 3 refine l_skip E rfl rfl fun a E => ?_
        refine l_val E ok (y_pickF rfl rfl) rfl rfl fun a E => ?_
        refine l_val E ok (y_move rfl) rfl rfl fun a E => ?_
        iterate 2 refine l_skip E rfl rfl fun a E => ?_
        refine l_val E ok (y_pickF rfl rfl) rfl rfl fun a E => ?_
        refine l_val E ok (y_assign rfl) rfl rfl fun a E => ?_
        refine wpList_nil ?_
        refine t_norm ?_
        refine wp_ret ?_
        have hret : verify_alternatives_R u m0 S false a w := ⟨(ok.drop.drop).down hb0 le_m0, E.d, ⟨rv_t E rfl, trivial⟩⟩
        obtain rfl := Option.some.inj hF
        exact fin _ _ hret
      replace hF := cond_t hc88 hF
      replace E := E.upd 46 hc88 rfl
      refine l_val E ok (y_move rfl) rfl rfl fun a E => ?_
      refine l_val E ok (y_lenL sl_29 h10 rfl) rfl rfl fun a E => ?_
      refine l_val E ok (y_geq rfl rfl) rfl rfl fun a E => ?_
      refine l_val E ok (y_pickT rfl rfl) rfl rfl fun a E => ?_
      refine l_val E ok (y_move rfl) rfl rfl fun a E => ?_
      refine bsplit (decide ((r6.length : Int) ≥ 1)) (fun hc89 => ?_) (fun hc89 => ?_)
      rotate_left
      · replace hF := cond_f hc89 hF
        replace E := E.upd 51 hc89 rfl
        iterate 3 refine l_skip E rfl rfl fun a E => ?_
        refine l_val E ok (y_pickF rfl rfl) rfl rfl fun a E => ?_
        refine l_val E ok (y_move rfl) rfl rfl fun a E => ?_
        iterate 2 refine l_skip E rfl rfl fun a E => ?_
        refine l_val E ok (y_pickF rfl rfl) rfl rfl fun a E => ?_
        refine l_val E ok (y_assign rfl) rfl rfl fun a E => ?_
        refine wpList_nil ?_
        refine t_norm ?_
        refine wp_ret ?_
        have hret : verify_alternatives_R u m0 S false a w := ⟨(ok.drop.drop).down hb0 le_m0, E.d, ⟨rv_t E rfl, trivial⟩⟩
        obtain rfl := Option.some.inj hF
        exact fin _ _ hret
      replace hF := cond_t hc89 hF
      replace E := E.upd 51 hc89 rfl
      refine l_val E ok (y_move rfl) rfl rfl fun a E => ?_
      refine l_val E ok (y_lenL sl_29 h10 rfl) rfl rfl fun a E => ?_
      refine l_val E ok (y_leq rfl rfl) rfl rfl fun a E => ?_
      refine l_val E ok (y_pickT rfl rfl) rfl rfl fun a E => ?_
      refine l_val E ok (y_move rfl) rfl rfl fun a E => ?_
      refine bsplit (decide ((r6.length : Int) ≤ 20)) (fun hc90 => ?_) (fun hc90 => ?_)
      rotate_left
      · replace hF := cond_f hc90 hF
        replace E := E.upd 56 hc90 rfl
        iterate 2 refine l_skip E rfl rfl fun a E => ?_
        refine l_val E ok (y_pickF rfl rfl) rfl rfl fun a E => ?_
        refine l_val E ok (y_assign rfl) rfl rfl fun a E => ?_
        refine wpList_nil ?_
        refine t_norm ?_
        refine wp_ret ?_
        have hret : verify_alternatives_R u m0 S false a w := ⟨(ok.drop.drop).down hb0 le_m0, E.d, ⟨rv_t E rfl, trivial⟩⟩
        obtain rfl := Option.some.inj hF
        exact fin _ _ hret
      replace hF := cond_t hc90 hF
      replace E := E.upd 56 hc90 rfl
      refine l_val E ok (y_move rfl) rfl rfl fun a E => ?_
      obtain ⟨xv91, h92, yy93, yy94⟩ := mlook (P := Tryd.prog) (mo := .tmp 57) (ko := .const (Value.string (bs ([111, 116, 104, 101, 114])))) (zx := (false : Bool)) ok 0 (keyR_str Tryd.underlying9) Tryd.underlying72 h72 rfl (ev_of E rfl) (ev_of E rfl) ⟨rfl, (show ([111, 116, 104, 101, 114] : List UInt8).length ≤ LIMS by decide)⟩ zeroV_4 pB_mk
      obtain rfl := pB_inv h92
      refine l_val E ok (yy93 _) rfl rfl fun a E => ?_
      refine l_val E ok (y_pickT rfl rfl) rfl rfl fun a E => ?_
      refine l_val E ok (y_assign rfl) rfl rfl fun a E => ?_
      refine wpList_nil ?_
      refine t_norm ?_
      refine wp_ret ?_
      have hret : verify_alternatives_R u m0 S ((mget o19 ([111, 116, 104, 101, 114])).getD false) a w := ⟨(ok.drop.drop).down hb0 le_m0, E.d, ⟨rv_t E rfl, trivial⟩⟩
      obtain rfl := Option.some.inj hF
      exact fin _ _ hret
  rintro ⟨x_24, seen_25⟩ a w r ⟨c27, M28, ok, E, r26, h29⟩ hF
  replace hF : verify_alternatives_b1 N c_0 i_1 r6 x_24 seen_25 = some r := hF
  unfold verify_alternatives_b1 at hF
  refine wp_seq ?_
  refine c_region ?_
  refine l_val E ok (y_lss rfl rfl) rfl rfl fun a E => ?_
  refine wpList_nil ?_
  refine t_norm ?_
  refine wp_seq ?_
  refine c_if E rfl (fun hc30 => ?_) (fun hc30 => ?_)
  rotate_left
  · replace hF := cond_f hc30 hF
    refine wp_exit ?_
    refine t_exit ?_
    obtain rfl := Option.some.inj hF
    exact step_o (by nofun) (sl ⟨rfl, ⟨c27, M28, ok, E.keep [1, 2, 5, 6], h29⟩⟩)
  replace hF := cond_t hc30 hF
  refine wp_skip ?_
  refine t_norm ?_
  refine wp_seq ?_
  refine wp_block ?_
  refine wp_seq ?_
  refine c_region ?_
  obtain ⟨x31, e32, hF⟩ := bnd hF
  obtain ⟨b33, o34, es35, hl36, rr37, at38, yy39⟩ := idxAt sl_29 h10 e32 (P := Tryd.prog) (X := .tmp 13) (I := .tmp 15) (kd := .i64) (ev_of E rfl) (ev_of E rfl)
  obtain ⟨rfl, r40, r41, r42, l43⟩ := rr37
  refine l_val E ok (yy39 _ _) rfl rfl fun a E => ?_
  refine l_val E ok (y_loadAgg (cs := [(Value.int .i64 x31.Op), (Value.int .i64 x31.A), (Value.int .i64 x31.B), (Value.string (bs x31.S))]) agg_41 rfl rfl (Holds.ro at38)) rfl rfl fun a E => ?_
  refine l_alloc E ok zero_41 rfl rfl fun b44 a w E ok => ?_
  refine l_storeB E ok 0 rfl rfl rfl inf_41 rfl rfl ⟨rfl, rfl, rfl, rfl, trivial⟩ rfl rfl fun w ok => ?_
  refine wpList_nil ?_
  refine t_norm ?_
  refine wp_seq ?_
  refine wp_seq ?_
  refine c_draw (by kernel_rfl) (by kernel_rfl) ok ?_
  refine q_val E (y_fieldAddr fo_31_1 rfl) rfl rfl fun a E => ?_
  refine q_val E (y_load one_29 rfl (Holds.own 2 rfl rfl)) rfl rfl fun a E => ?_
  refine q_val E (y_move rfl) rfl rfl fun a E => ?_
  obtain ⟨x45, e46, hF⟩ := bnd hF
  obtain ⟨b47, o48, es49, hl50, rr51, at52, yy53⟩ := idxAt sl_29 h4 e46 (P := Tryd.prog) (X := .tmp 20) (I := .tmp 21) (kd := .i64) (ev_of E rfl) (ev_of E rfl)
  obtain ⟨rfl, r54, r55, r56, l57⟩ := rr51
  refine q_val E (yy53 _ _) rfl rfl fun a E => ?_
  refine q_val E (y_fieldAddr fo_41_2 rfl) rfl rfl fun a E => ?_
  refine q_val E (y_load one_3 rfl (Holds.ro (At.sub 2 1 at52))) rfl rfl fun a E => ?_
  refine q_val E (y_fieldAddr fo_41_3 rfl) rfl rfl fun a E => ?_
  refine q_val E (y_load one_9 rfl (Holds.own 0 rfl rfl)) rfl rfl fun a E => ?_
  obtain ⟨r58, e59, hF⟩ := bnd hF
  refine q_call E go_32 rfl (fun w ok => (verify_key_w N x45.B r56 x31.S l43 e59 hG ok).mono (fun _ _ h => h)) rfl rfl fun a E => ?_
  refine q_val E (y_not rfl) rfl rfl fun a E => ?_
  refine q_val E (y_move rfl) rfl rfl fun a E => ?_
  refine bsplit (!r58) (fun hc60 => ?_) (fun hc60 => ?_)
  · replace hF := cond_t hc60 hF
    replace E := E.upd 29 hc60 rfl
    refine q_skip E rfl rfl fun a E => ?_
    refine q_skip E rfl rfl fun a E => ?_
    refine q_skip E rfl rfl fun a E => ?_
    refine q_skip E rfl rfl fun a E => ?_
    refine q_val E (y_pickT rfl rfl) rfl rfl fun a E => ?_
    refine wpQuiet_nil ?_
    intro w ok
    refine t_norm ?_
    refine c_if E rfl (fun _ => ?_) (fun h => by cases h)
    refine wp_seq ?_
    refine c_region ?_
    refine l_val E ok (y_assign rfl) rfl rfl fun a E => ?_
    refine wpList_nil ?_
    refine t_norm ?_
    refine wp_ret ?_
    refine t_ret ?_
    refine b_ret ?_
    refine t_ret ?_
    have hret : verify_alternatives_R u m0 S false a w := ⟨(ok.drop.drop.drop).down hb0 le_m0, E.d, ⟨rv_t E rfl, trivial⟩⟩
    obtain rfl := Option.some.inj hF
    exact step_o (by nofun) (sr ⟨rfl, hret⟩)
  replace hF := cond_f hc60 hF
  replace E := E.upd 29 hc60 rfl
  refine q_val E (y_move rfl) rfl rfl fun a E => ?_
  refine q_val E (y_fieldAddr fo_41_3 rfl) rfl rfl fun a E => ?_
  refine q_val E (y_load one_9 rfl (Holds.own 0 rfl rfl)) rfl rfl fun a E => ?_
  obtain ⟨xv61, h62, yy63, yy64⟩ := mlook (P := Tryd.prog) (mo := .tmp 30) (ko := .tmp 32) (zx := (false : Bool)) ok 1 (keyR_str Tryd.underlying9) Tryd.underlying72 h29 rfl (ev_of E rfl) (ev_of E rfl) ⟨rfl, l43⟩ zeroV_4 pB_mk
  obtain rfl := pB_inv h62
  refine q_val E (yy63 _) rfl rfl fun a E => ?_
  refine q_val E (y_pickF rfl rfl) rfl rfl fun a E => ?_
  refine wpQuiet_nil ?_
  intro w ok
  refine t_norm ?_
  refine c_if E rfl (fun hc65 => ?_) (fun hc65 => ?_)
  · replace hF := cond_t hc65 hF
    refine wp_seq ?_
    refine c_region ?_
    refine l_val E ok (y_assign rfl) rfl rfl fun a E => ?_
    refine wpList_nil ?_
    refine t_norm ?_
    refine wp_ret ?_
    refine t_ret ?_
    refine b_ret ?_
    refine t_ret ?_
    have hret : verify_alternatives_R u m0 S false a w := ⟨(ok.drop.drop.drop).down hb0 le_m0, E.d, ⟨rv_t E rfl, trivial⟩⟩
    obtain rfl := Option.some.inj hF
    exact step_o (by nofun) (sr ⟨rfl, hret⟩)
  replace hF := cond_f hc65 hF
  refine wp_skip ?_
  refine t_norm ?_
  refine c_region ?_
  refine l_val E ok (y_move rfl) rfl rfl fun a E => ?_
  refine l_val E ok (y_fieldAddr fo_41_3 rfl) rfl rfl fun a E => ?_
  refine l_val E ok (y_load one_9 rfl (Holds.own 0 rfl rfl)) rfl rfl fun a E => ?_
  obtain ⟨l66, e67, hF⟩ := bnd hF
  refine l_mset (.inl rfl) E ok 1 (keyR_str Tryd.underlying9) Tryd.underlying72 h29 rfl rfl rfl rfl ⟨rfl, l43⟩ pB_mk e67 rfl fun M68 w ok h69 => ?_
  refine wpList_nil ?_
  refine b_norm ?_
  refine t_norm ?_
  refine c_region ?_
  refine l_val E ok (y_add rfl rfl (InR.inc r26 (pL_InR h10) hc30)) rfl rfl fun a E => ?_
  refine l_val E ok (y_move rfl) rfl rfl fun a E => ?_
  refine wpList_nil ?_
  obtain rfl := Option.some.inj hF
  exact step_n ⟨c27, M68, (ok.pk 3 [1, 2] rfl (by decide)), E.keep [1, 2, 5, 6, 13, 14, 15], (InR.inc r26 (pL_InR h10) hc30), h69⟩

def verify_target_R (u : World) (m0 : Mem) (S : Segs) (r : Bool) (a : Act) (w : World) : Prop :=
  Ok u m0 S w ∧ a.defers = [] ∧ RVs Tryd.prog a w [.t 6 (.bool r)]
set_option maxHeartbeats 4000000 in
set_option maxRecDepth 100000 in
theorem verify_target_w {u : World} {m0 : Mem} {S : Segs} {w : World} (N : Nat) (vc_0 : List Value) (c_0 : Code) (hc_0 : pCode m0 vc_0 c_0) (i_1 : Int) (ri_1 : InR .i64 i_1) (to_2 : Int) (rto_2 : InR .i64 to_2) {r : Bool} (hF : verify_target N c_0 i_1 to_2 = some r) (hG : Glob u) (ok : Ok u m0 S w) :
    Calls Tryd.prog 22 [.agg vc_0.toArray, Value.int .i64 i_1, Value.int .i64 to_2].toArray w fun e w' => (e = .returned (.bool r) ∧ Ok u m0 S w') := by
  obtain ⟨c1, c3, rfl, h2, h4⟩ := hc_0
  have hb0 := ok.base
  have le_m0 := Mem.le.refl m0
  unfold verify_target at hF
  have fin : ∀ a w, verify_target_R u m0 S r a w → bodyPost Tryd.prog Tryd.f22 (fun e w' => (e = .returned (.bool r) ∧ Ok u m0 S w')) .ret a w := by
    intro a w h
    obtain ⟨ok, hd, hrv⟩ := h
    exact c_ret2 [.t 6 (.bool r)] hd rfl hrv ⟨rfl, ok⟩
  refine enter Tryd.func22 rfl rfl rfl fun a E => ?_
  refine wp_seq ?_
  refine c_region ?_
  refine l_box E ok rfl rfl rfl fun b5 a w E ok => ?_
  refine l_val E ok (y_assign rfl) rfl rfl fun a E => ?_
  refine wpList_nil ?_
  refine t_norm ?_
  refine wp_seq ?_
  refine c_region ?_
  refine l_val E ok (y_move rfl) rfl rfl fun a E => ?_
  refine l_val E ok (y_move rfl) rfl rfl fun a E => ?_
  refine l_val E ok (y_gtr rfl rfl) rfl rfl fun a E => ?_
  refine l_val E ok (y_move rfl) rfl rfl fun a E => ?_
  refine bsplit (decide (to_2 > i_1)) (fun hc6 => ?_) (fun hc6 => ?_)
  rotate_left
  · replace hF := cond_f hc6 hF
    replace E := E.upd 10 hc6 rfl
    iterate 5 refine l_skip E rfl rfl fun a E => ?_
    refine l_val E ok (y_pickF rfl rfl) rfl rfl fun a E => ?_
    refine l_val E ok (y_move rfl) rfl rfl fun a E => ?_
    iterate 7 refine l_skip E rfl rfl fun a E => ?_
    refine l_val E ok (y_pickF rfl rfl) rfl rfl fun a E => ?_
    refine l_val E ok (y_assign rfl) rfl rfl fun a E => ?_
    refine wpList_nil ?_
    refine t_norm ?_
    refine wp_ret ?_
    have hret : verify_target_R u m0 S false a w := ⟨ok.drop, E.d, ⟨rv_t E rfl, trivial⟩⟩
    obtain rfl := Option.some.inj hF
    exact fin _ _ hret
  replace hF := cond_t hc6 hF
  replace E := E.upd 10 hc6 rfl
  refine l_val E ok (y_move rfl) rfl rfl fun a E => ?_
  refine l_val E ok (y_fieldAddr fo_31_1 rfl) rfl rfl fun a E => ?_
  refine l_val E ok (y_load one_29 rfl (Holds.own 0 rfl rfl)) rfl rfl fun a E => ?_
  refine l_val E ok (y_lenL sl_29 h4 rfl) rfl rfl fun a E => ?_
  refine l_val E ok (y_lss rfl rfl) rfl rfl fun a E => ?_
  refine l_val E ok (y_pickT rfl rfl) rfl rfl fun a E => ?_
  refine l_val E ok (y_move rfl) rfl rfl fun a E => ?_
  refine bsplit (decide (to_2 < (c_0.Ins.length : Int))) (fun hc7 => ?_) (fun hc7 => ?_)
  rotate_left
  · replace hF := cond_f hc7 hF
    replace E := E.upd 17 hc7 rfl
    iterate 7 refine l_skip E rfl rfl fun a E => ?_
    refine l_val E ok (y_pickF rfl rfl) rfl rfl fun a E => ?_
    refine l_val E ok (y_assign rfl) rfl rfl fun a E => ?_
    refine wpList_nil ?_
    refine t_norm ?_
    refine wp_ret ?_
    have hret : verify_target_R u m0 S false a w := ⟨ok.drop, E.d, ⟨rv_t E rfl, trivial⟩⟩
    obtain rfl := Option.some.inj hF
    exact fin _ _ hret
  replace hF := cond_t hc7 hF
  replace E := E.upd 17 hc7 rfl
  refine l_val E ok (y_fieldAddr fo_31_1 rfl) rfl rfl fun a E => ?_
  refine l_val E ok (y_load one_29 rfl (Holds.own 0 rfl rfl)) rfl rfl fun a E => ?_
  refine l_val E ok (y_move rfl) rfl rfl fun a E => ?_
  obtain ⟨x8, e9, hF⟩ := bnd hF
  obtain ⟨b10, o11, es12, hl13, rr14, at15, yy16⟩ := idxAt sl_29 h4 e9 (P := Tryd.prog) (X := .tmp 19) (I := .tmp 20) (kd := .i64) (ev_of E rfl) (ev_of E rfl)
  obtain ⟨rfl, r17, r18, r19, l20⟩ := rr14
  refine l_val E ok (yy16 _ _) rfl rfl fun a E => ?_
  refine l_val E ok (y_fieldAddr fo_41_0 rfl) rfl rfl fun a E => ?_
  refine l_val E ok (y_load one_3 rfl (Holds.ro (At.sub 0 1 at15))) rfl rfl fun a E => ?_
  refine l_val E ok (y_neq rfl rfl) rfl rfl fun a E => ?_
  refine l_val E ok (y_pickT rfl rfl) rfl rfl fun a E => ?_
  refine l_val E ok (y_assign rfl) rfl rfl fun a E => ?_
  refine wpList_nil ?_
  refine t_norm ?_
  refine wp_ret ?_
  have hret : verify_target_R u m0 S (x8.Op != 11) a w := ⟨ok.drop, E.d, ⟨rv_t E rfl, trivial⟩⟩
  obtain rfl := Option.some.inj hF
  exact fin _ _ hret

def verify_Proper_R (u : World) (m0 : Mem) (S : Segs) (r : Bool) (a : Act) (w : World) : Prop :=
  Ok u m0 S w ∧ a.defers = [] ∧ RVs Tryd.prog a w [.t 4 (.bool r)]
set_option maxHeartbeats 4000000 in
set_option maxRecDepth 100000 in
theorem verify_Proper_w {u : World} {m0 : Mem} {S : Segs} {w : World} (N : Nat) (vc_0 : List Value) (c_0 : Code) (hc_0 : pCode m0 vc_0 c_0) (i_1 : Int) (ri_1 : InR .i64 i_1) {r : Bool} (hF : verify_Proper N c_0 i_1 = some r) (hG : Glob u) (ok : Ok u m0 S w) :
    Calls Tryd.prog 10 [.agg vc_0.toArray, Value.int .i64 i_1].toArray w fun e w' => (e = .returned (.bool r) ∧ Ok u m0 S w') := by
  obtain ⟨c1, c3, rfl, h2, h4⟩ := hc_0
  have hb0 := ok.base
  have le_m0 := Mem.le.refl m0
  unfold verify_Proper at hF
  have fin : ∀ a w, verify_Proper_R u m0 S r a w → bodyPost Tryd.prog Tryd.f10 (fun e w' => (e = .returned (.bool r) ∧ Ok u m0 S w')) .ret a w := by
    intro a w h
    obtain ⟨ok, hd, hrv⟩ := h
    exact c_ret2 [.t 4 (.bool r)] hd rfl hrv ⟨rfl, ok⟩
  refine enter Tryd.func10 rfl rfl rfl fun a E => ?_
  refine wp_seq ?_
  refine c_region ?_
  refine l_box E ok rfl rfl rfl fun b5 a w E ok => ?_
  refine l_val E ok (y_assign rfl) rfl rfl fun a E => ?_
  refine wpList_nil ?_
  refine t_norm ?_
  refine wp_seq ?_
  refine wp_seq ?_
  refine c_region ?_
  refine l_val E ok (y_move rfl) rfl rfl fun a E => ?_
  refine l_val E ok (y_lss rfl rfl) rfl rfl fun a E => ?_
  refine l_val E ok (y_move rfl) rfl rfl fun a E => ?_
  refine bsplit (decide (i_1 < 0)) (fun hc6 => ?_) (fun hc6 => ?_)
  · replace hF := cond_t hc6 hF
    replace E := E.upd 10 hc6 rfl
    iterate 5 refine l_skip E rfl rfl fun a E => ?_
    refine l_val E ok (y_pickT rfl rfl) rfl rfl fun a E => ?_
    refine wpList_nil ?_
    refine t_norm ?_
    refine c_if E rfl (fun _ => ?_) (fun h => by cases h)
    refine wp_seq ?_
    refine c_region ?_
    refine l_val E ok (y_assign rfl) rfl rfl fun a E => ?_
    refine wpList_nil ?_
    refine t_norm ?_
    refine wp_ret ?_
    refine t_ret ?_
    have hret : verify_Proper_R u m0 S false a w := ⟨ok.drop, E.d, ⟨rv_t E rfl, trivial⟩⟩
    obtain rfl := Option.some.inj hF
    exact fin _ _ hret
  replace hF := cond_f hc6 hF
  replace E := E.upd 10 hc6 rfl
  refine l_val E ok (y_move rfl) rfl rfl fun a E => ?_
  refine l_val E ok (y_fieldAddr fo_31_1 rfl) rfl rfl fun a E => ?_
  refine l_val E ok (y_load one_29 rfl (Holds.own 0 rfl rfl)) rfl rfl fun a E => ?_
  refine l_val E ok (y_lenL sl_29 h4 rfl) rfl rfl fun a E => ?_
  refine l_val E ok (y_geq rfl rfl) rfl rfl fun a E => ?_
  refine l_val E ok (y_pickF rfl rfl) rfl rfl fun a E => ?_
  refine wpList_nil ?_
  refine t_norm ?_
  refine c_if E rfl (fun hc7 => ?_) (fun hc7 => ?_)
  · replace hF := cond_t hc7 hF
    refine wp_seq ?_
    refine c_region ?_
    refine l_val E ok (y_assign rfl) rfl rfl fun a E => ?_
    refine wpList_nil ?_
    refine t_norm ?_
    refine wp_ret ?_
    refine t_ret ?_
    have hret : verify_Proper_R u m0 S false a w := ⟨ok.drop, E.d, ⟨rv_t E rfl, trivial⟩⟩
    obtain rfl := Option.some.inj hF
    exact fin _ _ hret
  replace hF := cond_f hc7 hF
  refine wp_skip ?_
  refine t_norm ?_
  refine wp_seq ?_
  refine c_region ?_
  refine l_val E ok (y_fieldAddr fo_31_1 rfl) rfl rfl fun a E => ?_
  refine l_val E ok (y_load one_29 rfl (Holds.own 0 rfl rfl)) rfl rfl fun a E => ?_
  refine l_val E ok (y_move rfl) rfl rfl fun a E => ?_
  obtain ⟨x8, e9, hF⟩ := bnd hF
  obtain ⟨b10, o11, es12, hl13, rr14, at15, yy16⟩ := idxAt sl_29 h4 e9 (P := Tryd.prog) (X := .tmp 18) (I := .tmp 19) (kd := .i64) (ev_of E rfl) (ev_of E rfl)
  obtain ⟨rfl, r17, r18, r19, l20⟩ := rr14
  refine l_val E ok (yy16 _ _) rfl rfl fun a E => ?_
  refine l_val E ok (y_loadAgg (cs := [(Value.int .i64 x8.Op), (Value.int .i64 x8.A), (Value.int .i64 x8.B), (Value.string (bs x8.S))]) agg_41 rfl rfl (Holds.ro at15)) rfl rfl fun a E => ?_
  refine l_alloc E ok zero_41 rfl rfl fun b21 a w E ok => ?_
  refine l_storeB E ok 0 rfl rfl rfl inf_41 rfl rfl ⟨rfl, rfl, rfl, rfl, trivial⟩ rfl rfl fun w ok => ?_
  refine wpList_nil ?_
  refine t_norm ?_
  refine wp_seq ?_
  refine c_region ?_
  refine l_val E ok (y_fieldAddr fo_41_0 rfl) rfl rfl fun a E => ?_
  refine l_val E ok (y_load one_3 rfl (Holds.own 0 rfl rfl)) rfl rfl fun a E => ?_
  obtain ⟨r22, e23, hF⟩ := bnd hF
  refine l_call E go_18 rfl (verify_fields_w N x8.Op r17 e23 hG ok) rfl rfl ?_
  rintro _ w ⟨m24, vs25, rfl, hle, ok, h26⟩
  have le_m0 := le_m0.trans hle
  have h2 := (mL mS).up hle h2
  have h4 := (mL mIns).up hle h4
  have at15 := At.up hle at15
  obtain ⟨rfl⟩ := h26
  refine ⟨_, rfl, fun a E => ?_⟩
  refine l_val E ok (y_move rfl) rfl rfl fun a E => ?_
  refine l_val E ok (y_extract rfl rfl) rfl rfl fun a E => ?_
  refine l_val E ok (y_extract rfl rfl) rfl rfl fun a E => ?_
  refine l_alloc E ok zero_51 rfl rfl fun b27 a w E ok => ?_
  refine l_storeB E ok 0 rfl rfl rfl inf_51 rfl rfl ⟨rfl, rfl, rfl, trivial⟩ rfl rfl fun w ok => ?_
  refine l_val E ok (y_assign rfl) rfl rfl fun a E => ?_
  refine wpList_nil ?_
  refine t_norm ?_
  refine wp_seq ?_
  refine wp_seq ?_
  obtain ⟨o28, hJ, hF⟩ := bnd hF
  refine c_mono (Q' := fun e a w => e = .normal ∧ Ok u m24 ([(b27, Obj.cells [(Value.bool r22.1.a), (Value.bool r22.1.b), (Value.bool r22.1.s)].toArray 51 (0, 0))] :: [(b21, Obj.cells [(Value.int .i64 x8.Op), (Value.int .i64 x8.A), (Value.int .i64 x8.B), (Value.string (bs x8.S))].toArray 41 (0, 0))] :: [(b5, Obj.cells [c1, c3].toArray 31 (0, 0))] :: S) w ∧ Env 168 a [(1, (Value.int .i64 i_1)), (2, (Value.pointer (some ⟨b5, 0, none⟩))), (5, (Value.pointer (some ⟨b21, 0, none⟩))), (59, (Value.bool o28))]) ?_ ?_
  · as_aux_lemma =>
      replace hF := hJ
      clear hJ
      refine c_region ?_
      refine l_val E ok (y_move rfl) rfl rfl fun a E => ?_
      refine l_val E ok (y_not rfl) rfl rfl fun a E => ?_
      refine l_val E ok (y_move rfl) rfl rfl fun a E => ?_
      refine bsplit (!r22.2) (fun hc29 => ?_) (fun hc29 => ?_)
      · replace hF := cond_t hc29 hF
        replace E := E.upd 30 hc29 rfl
        iterate 8 refine l_skip E rfl rfl fun a E => ?_
        refine l_val E ok (y_pickT rfl rfl) rfl rfl fun a E => ?_
        refine l_val E ok (y_move rfl) rfl rfl fun a E => ?_
        iterate 8 refine l_skip E rfl rfl fun a E => ?_
        refine l_val E ok (y_pickT rfl rfl) rfl rfl fun a E => ?_
        refine l_val E ok (y_move rfl) rfl rfl fun a E => ?_
        iterate 8 refine l_skip E rfl rfl fun a E => ?_
        refine l_val E ok (y_pickT rfl rfl) rfl rfl fun a E => ?_
        refine wpList_nil ?_
        obtain rfl := Option.some.inj hF
        exact ⟨rfl, ⟨ok, E.keep [1, 2, 5, 59]⟩⟩
      replace hF := cond_f hc29 hF
      replace E := E.upd 30 hc29 rfl
      refine l_val E ok (y_fieldAddr fo_51_0 rfl) rfl rfl fun a E => ?_
      refine l_val E ok (y_load one_4 rfl (Holds.own 0 rfl rfl)) rfl rfl fun a E => ?_
      refine l_val E ok (y_not rfl) rfl rfl fun a E => ?_
      refine l_val E ok (y_move rfl) rfl rfl fun a E => ?_
      refine bsplit (!r22.1.a) (fun hc30 => ?_) (fun hc30 => ?_)
      rotate_left
      · as_aux_lemma =>
          replace hF := cond_f hc30 hF
          replace E := E.upd 34 hc30 rfl
          iterate 3 refine l_skip E rfl rfl fun a E => ?_
          refine l_val E ok (y_pickF rfl rfl) rfl rfl fun a E => ?_
          refine l_val E ok (y_pickF rfl rfl) rfl rfl fun a E => ?_
          refine l_val E ok (y_move rfl) rfl rfl fun a E => ?_
          refine l_val E ok (y_fieldAddr fo_51_1 rfl) rfl rfl fun a E => ?_
          refine l_val E ok (y_load one_4 rfl (Holds.own 0 rfl rfl)) rfl rfl fun a E => ?_
          refine l_val E ok (y_not rfl) rfl rfl fun a E => ?_
          refine l_val E ok (y_move rfl) rfl rfl fun a E => ?_
          refine bsplit (!r22.1.b) (fun hc36 => ?_) (fun hc36 => ?_)
          rotate_left
          · replace hF := cond_f hc36 hF
            replace E := E.upd 44 hc36 rfl
            iterate 3 refine l_skip E rfl rfl fun a E => ?_
            refine l_val E ok (y_pickF rfl rfl) rfl rfl fun a E => ?_
            refine l_val E ok (y_pickF rfl rfl) rfl rfl fun a E => ?_
            refine l_val E ok (y_move rfl) rfl rfl fun a E => ?_
            refine l_val E ok (y_fieldAddr fo_51_2 rfl) rfl rfl fun a E => ?_
            refine l_val E ok (y_load one_4 rfl (Holds.own 0 rfl rfl)) rfl rfl fun a E => ?_
            refine l_val E ok (y_not rfl) rfl rfl fun a E => ?_
            refine l_val E ok (y_move rfl) rfl rfl fun a E => ?_
            refine bsplit (!r22.1.s) (fun hc39 => ?_) (fun hc39 => ?_)
            · replace hF := cond_t hc39 hF
              replace E := E.upd 54 hc39 rfl
              refine l_val E ok (y_fieldAddr fo_41_3 rfl) rfl rfl fun a E => ?_
              refine l_val E ok (y_load one_9 rfl (Holds.own 1 rfl rfl)) rfl rfl fun a E => ?_
              refine l_val E ok (y_sneq rfl rfl) rfl rfl fun a E => ?_
              refine l_val E ok (y_pickT rfl rfl) rfl rfl fun a E => ?_
              refine l_val E ok (y_pickF rfl rfl) rfl rfl fun a E => ?_
              refine wpList_nil ?_
              obtain rfl := Option.some.inj hF
              exact ⟨rfl, ⟨ok, E.keep [1, 2, 5, 59]⟩⟩
            replace hF := cond_f hc39 hF
            replace E := E.upd 54 hc39 rfl
            iterate 3 refine l_skip E rfl rfl fun a E => ?_
            refine l_val E ok (y_pickF rfl rfl) rfl rfl fun a E => ?_
            refine l_val E ok (y_pickF rfl rfl) rfl rfl fun a E => ?_
            refine wpList_nil ?_
            obtain rfl := Option.some.inj hF
            exact ⟨rfl, ⟨ok, E.keep [1, 2, 5, 59]⟩⟩
          replace hF := cond_t hc36 hF
          replace E := E.upd 44 hc36 rfl
          refine l_val E ok (y_fieldAddr fo_41_2 rfl) rfl rfl fun a E => ?_
          refine l_val E ok (y_load one_3 rfl (Holds.own 1 rfl rfl)) rfl rfl fun a E => ?_
          refine l_val E ok (y_neq rfl rfl) rfl rfl fun a E => ?_
          refine l_val E ok (y_pickT rfl rfl) rfl rfl fun a E => ?_
          refine l_val E ok (y_pickF rfl rfl) rfl rfl fun a E => ?_
          refine l_val E ok (y_move rfl) rfl rfl fun a E => ?_
          refine bsplit (x8.B != 0) (fun hc37 => ?_) (fun hc37 => ?_)
          · replace hF := cond_t hc37 hF
            replace E := E.upd 50 hc37 rfl
            iterate 8 refine l_skip E rfl rfl fun a E => ?_
            refine l_val E ok (y_pickT rfl rfl) rfl rfl fun a E => ?_
            refine wpList_nil ?_
            obtain rfl := Option.some.inj hF
            exact ⟨rfl, ⟨ok, E.keep [1, 2, 5, 59]⟩⟩
          replace hF := cond_f hc37 hF
          replace E := E.upd 50 hc37 rfl
          refine l_val E ok (y_fieldAddr fo_51_2 rfl) rfl rfl fun a E => ?_
          refine l_val E ok (y_load one_4 rfl (Holds.own 0 rfl rfl)) rfl rfl fun a E => ?_
          refine l_val E ok (y_not rfl) rfl rfl fun a E => ?_
          refine l_val E ok (y_move rfl) rfl rfl fun a E => ?_
          refine bsplit (!r22.1.s) (fun hc38 => ?_) (fun hc38 => ?_)
          · replace hF := cond_t hc38 hF
            replace E := E.upd 54 hc38 rfl
            refine l_val E ok (y_fieldAddr fo_41_3 rfl) rfl rfl fun a E => ?_
            refine l_val E ok (y_load one_9 rfl (Holds.own 1 rfl rfl)) rfl rfl fun a E => ?_
            refine l_val E ok (y_sneq rfl rfl) rfl rfl fun a E => ?_
            refine l_val E ok (y_pickT rfl rfl) rfl rfl fun a E => ?_
            refine l_val E ok (y_pickF rfl rfl) rfl rfl fun a E => ?_
            refine wpList_nil ?_
            obtain rfl := Option.some.inj hF
            exact ⟨rfl, ⟨ok, E.keep [1, 2, 5, 59]⟩⟩
          replace hF := cond_f hc38 hF
          replace E := E.upd 54 hc38 rfl
          iterate 3 refine l_skip E rfl rfl fun a E => ?_
          refine l_val E ok (y_pickF rfl rfl) rfl rfl fun a E => ?_
          refine l_val E ok (y_pickF rfl rfl) rfl rfl fun a E => ?_
          refine wpList_nil ?_
          obtain rfl := Option.some.inj hF
          exact ⟨rfl, ⟨ok, E.keep [1, 2, 5, 59]⟩⟩
      replace hF := cond_t hc30 hF
      replace E := E.upd 34 hc30 rfl
      refine l_val E ok (y_fieldAddr fo_41_1 rfl) rfl rfl fun a E => ?_
      refine l_val E ok (y_load one_3 rfl (Holds.own 1 rfl rfl)) rfl rfl fun a E => ?_
      refine l_val E ok (y_neq rfl rfl) rfl rfl fun a E => ?_
      refine l_val E ok (y_pickT rfl rfl) rfl rfl fun a E => ?_
      refine l_val E ok (y_pickF rfl rfl) rfl rfl fun a E => ?_
      refine l_val E ok (y_move rfl) rfl rfl fun a E => ?_
      refine bsplit (x8.A != 0) (fun hc31 => ?_) (fun hc31 => ?_)
      · replace hF := cond_t hc31 hF
        replace E := E.upd 40 hc31 rfl
        iterate 8 refine l_skip E rfl rfl fun a E => ?_
        refine l_val E ok (y_pickT rfl rfl) rfl rfl fun a E => ?_
        refine l_val E ok (y_move rfl) rfl rfl fun a E => ?_
        iterate 8 refine l_skip E rfl rfl fun a E => ?_
        refine l_val E ok (y_pickT rfl rfl) rfl rfl fun a E => ?_
        refine wpList_nil ?_
        obtain rfl := Option.some.inj hF
        exact ⟨rfl, ⟨ok, E.keep [1, 2, 5, 59]⟩⟩
      replace hF := cond_f hc31 hF
      replace E := E.upd 40 hc31 rfl
      refine l_val E ok (y_fieldAddr fo_51_1 rfl) rfl rfl fun a E => ?_
      refine l_val E ok (y_load one_4 rfl (Holds.own 0 rfl rfl)) rfl rfl fun a E => ?_
      refine l_val E ok (y_not rfl) rfl rfl fun a E => ?_
      refine l_val E ok (y_move rfl) rfl rfl fun a E => ?_
      refine bsplit (!r22.1.b) (fun hc32 => ?_) (fun hc32 => ?_)
      rotate_left
      · replace hF := cond_f hc32 hF
        replace E := E.upd 44 hc32 rfl
        iterate 3 refine l_skip E rfl rfl fun a E => ?_
        refine l_val E ok (y_pickF rfl rfl) rfl rfl fun a E => ?_
        refine l_val E ok (y_pickF rfl rfl) rfl rfl fun a E => ?_
        refine l_val E ok (y_move rfl) rfl rfl fun a E => ?_
        refine l_val E ok (y_fieldAddr fo_51_2 rfl) rfl rfl fun a E => ?_
        refine l_val E ok (y_load one_4 rfl (Holds.own 0 rfl rfl)) rfl rfl fun a E => ?_
        refine l_val E ok (y_not rfl) rfl rfl fun a E => ?_
        refine l_val E ok (y_move rfl) rfl rfl fun a E => ?_
        refine bsplit (!r22.1.s) (fun hc35 => ?_) (fun hc35 => ?_)
        · replace hF := cond_t hc35 hF
          replace E := E.upd 54 hc35 rfl
          refine l_val E ok (y_fieldAddr fo_41_3 rfl) rfl rfl fun a E => ?_
          refine l_val E ok (y_load one_9 rfl (Holds.own 1 rfl rfl)) rfl rfl fun a E => ?_
          refine l_val E ok (y_sneq rfl rfl) rfl rfl fun a E => ?_
          refine l_val E ok (y_pickT rfl rfl) rfl rfl fun a E => ?_
          refine l_val E ok (y_pickF rfl rfl) rfl rfl fun a E => ?_
          refine wpList_nil ?_
          obtain rfl := Option.some.inj hF
          exact ⟨rfl, ⟨ok, E.keep [1, 2, 5, 59]⟩⟩
        replace hF := cond_f hc35 hF
        replace E := E.upd 54 hc35 rfl
        iterate 3 refine l_skip E rfl rfl fun a E => ?_
        refine l_val E ok (y_pickF rfl rfl) rfl rfl fun a E => ?_
        refine l_val E ok (y_pickF rfl rfl) rfl rfl fun a E => ?_
        refine wpList_nil ?_
        obtain rfl := Option.some.inj hF
        exact ⟨rfl, ⟨ok, E.keep [1, 2, 5, 59]⟩⟩
      replace hF := cond_t hc32 hF
      replace E := E.upd 44 hc32 rfl
      refine l_val E ok (y_fieldAddr fo_41_2 rfl) rfl rfl fun a E => ?_
      refine l_val E ok (y_load one_3 rfl (Holds.own 1 rfl rfl)) rfl rfl fun a E => ?_
      refine l_val E ok (y_neq rfl rfl) rfl rfl fun a E => ?_
      refine l_val E ok (y_pickT rfl rfl) rfl rfl fun a E => ?_
      refine l_val E ok (y_pickF rfl rfl) rfl rfl fun a E => ?_
      refine l_val E ok (y_move rfl) rfl rfl fun a E => ?_
      refine bsplit (x8.B != 0) (fun hc33 => ?_) (fun hc33 => ?_)
      · replace hF := cond_t hc33 hF
        replace E := E.upd 50 hc33 rfl
        iterate 8 refine l_skip E rfl rfl fun a E => ?_
        refine l_val E ok (y_pickT rfl rfl) rfl rfl fun a E => ?_
        refine wpList_nil ?_
        obtain rfl := Option.some.inj hF
        exact ⟨rfl, ⟨ok, E.keep [1, 2, 5, 59]⟩⟩
      replace hF := cond_f hc33 hF
      replace E := E.upd 50 hc33 rfl
      refine l_val E ok (y_fieldAddr fo_51_2 rfl) rfl rfl fun a E => ?_
      refine l_val E ok (y_load one_4 rfl (Holds.own 0 rfl rfl)) rfl rfl fun a E => ?_
      refine l_val E ok (y_not rfl) rfl rfl fun a E => ?_
      refine l_val E ok (y_move rfl) rfl rfl fun a E => ?_
      refine bsplit (!r22.1.s) (fun hc34 => ?_) (fun hc34 => ?_)
      · replace hF := cond_t hc34 hF
        replace E := E.upd 54 hc34 rfl
        refine l_val E ok (y_fieldAddr fo_41_3 rfl) rfl rfl fun a E => ?_
        refine l_val E ok (y_load one_9 rfl (Holds.own 1 rfl rfl)) rfl rfl fun a E => ?_
        refine l_val E ok (y_sneq rfl rfl) rfl rfl fun a E => ?_
        refine l_val E ok (y_pickT rfl rfl) rfl rfl fun a E => ?_
        refine l_val E ok (y_pickF rfl rfl) rfl rfl fun a E => ?_
        refine wpList_nil ?_
        obtain rfl := Option.some.inj hF
        exact ⟨rfl, ⟨ok, E.keep [1, 2, 5, 59]⟩⟩
      replace hF := cond_f hc34 hF
      replace E := E.upd 54 hc34 rfl
      iterate 3 refine l_skip E rfl rfl fun a E => ?_
      refine l_val E ok (y_pickF rfl rfl) rfl rfl fun a E => ?_
      refine l_val E ok (y_pickF rfl rfl) rfl rfl fun a E => ?_
      refine wpList_nil ?_
      obtain rfl := Option.some.inj hF
      exact ⟨rfl, ⟨ok, E.keep [1, 2, 5, 59]⟩⟩
  clear hJ
  intro e a w hO
  obtain ⟨rfl, ok, E⟩ := hO
  refine t_norm ?_
  refine c_if E rfl (fun hc40 => ?_) (fun hc40 => ?_)
  · replace hF := cond_t hc40 hF
    refine wp_seq ?_
    refine c_region ?_
    refine l_val E ok (y_assign rfl) rfl rfl fun a E => ?_
    refine wpList_nil ?_
    refine t_norm ?_
    refine wp_ret ?_
    refine t_ret ?_
    have hret : verify_Proper_R u m0 S false a w := ⟨(ok.drop.drop.drop).down hb0 le_m0, E.d, ⟨rv_t E rfl, trivial⟩⟩
    obtain rfl := Option.some.inj hF
    exact fin _ _ hret
  replace hF := cond_f hc40 hF
  refine wp_skip ?_
  refine t_norm ?_
  refine wp_seq ?_
  refine wp_seq ?_
  obtain ⟨o41, hJ, hF⟩ := bnd hF
  refine c_mono (Q' := fun e a w => e = .normal ∧ Ok u m24 ([(b27, Obj.cells [(Value.bool r22.1.a), (Value.bool r22.1.b), (Value.bool r22.1.s)].toArray 51 (0, 0))] :: [(b21, Obj.cells [(Value.int .i64 x8.Op), (Value.int .i64 x8.A), (Value.int .i64 x8.B), (Value.string (bs x8.S))].toArray 41 (0, 0))] :: [(b5, Obj.cells [c1, c3].toArray 31 (0, 0))] :: S) w ∧ Env 168 a [(1, (Value.int .i64 i_1)), (2, (Value.pointer (some ⟨b5, 0, none⟩))), (5, (Value.pointer (some ⟨b21, 0, none⟩))), (80, (Value.bool o41))]) ?_ ?_
  · as_aux_lemma =>
      replace hF := hJ
      clear hJ
      refine c_region ?_
      refine l_val E ok (y_fieldAddr fo_41_0 rfl) rfl rfl fun a E => ?_
      refine l_val E ok (y_load one_3 rfl (Holds.own 1 rfl rfl)) rfl rfl fun a E => ?_
      refine l_val E ok (y_geq rfl rfl) rfl rfl fun a E => ?_
      refine l_val E ok (y_move rfl) rfl rfl fun a E => ?_
      refine bsplit (decide (x8.Op ≥ 5)) (fun hc42 => ?_) (fun hc42 => ?_)
      rotate_left
      · replace hF := cond_f hc42 hF
        replace E := E.upd 63 hc42 rfl
        iterate 3 refine l_skip E rfl rfl fun a E => ?_
        refine l_val E ok (y_pickF rfl rfl) rfl rfl fun a E => ?_
        refine l_val E ok (y_move rfl) rfl rfl fun a E => ?_
        iterate 11 refine l_skip E rfl rfl fun a E => ?_
        refine l_val E ok (y_pickF rfl rfl) rfl rfl fun a E => ?_
        refine wpList_nil ?_
        obtain rfl := Option.some.inj hF
        exact ⟨rfl, ⟨ok, E.keep [1, 2, 5, 80]⟩⟩
      replace hF := cond_t hc42 hF
      replace E := E.upd 63 hc42 rfl
      refine l_val E ok (y_fieldAddr fo_41_0 rfl) rfl rfl fun a E => ?_
      refine l_val E ok (y_load one_3 rfl (Holds.own 1 rfl rfl)) rfl rfl fun a E => ?_
      refine l_val E ok (y_leq rfl rfl) rfl rfl fun a E => ?_
      refine l_val E ok (y_pickT rfl rfl) rfl rfl fun a E => ?_
      refine l_val E ok (y_move rfl) rfl rfl fun a E => ?_
      refine bsplit (decide (x8.Op ≤ 10)) (fun hc43 => ?_) (fun hc43 => ?_)
      rotate_left
      · replace hF := cond_f hc43 hF
        replace E := E.upd 68 hc43 rfl
        iterate 11 refine l_skip E rfl rfl fun a E => ?_
        refine l_val E ok (y_pickF rfl rfl) rfl rfl fun a E => ?_
        refine wpList_nil ?_
        obtain rfl := Option.some.inj hF
        exact ⟨rfl, ⟨ok, E.keep [1, 2, 5, 80]⟩⟩
      replace hF := cond_t hc43 hF
      replace E := E.upd 68 hc43 rfl
      refine l_val E ok (y_fieldAddr fo_41_1 rfl) rfl rfl fun a E => ?_
      refine l_val E ok (y_load one_3 rfl (Holds.own 1 rfl rfl)) rfl rfl fun a E => ?_
      refine l_val E ok (y_lss rfl rfl) rfl rfl fun a E => ?_
      refine l_val E ok (y_move rfl) rfl rfl fun a E => ?_
      refine bsplit (decide (x8.A < 0)) (fun hc44 => ?_) (fun hc44 => ?_)
      · replace hF := cond_t hc44 hF
        replace E := E.upd 72 hc44 rfl
        iterate 6 refine l_skip E rfl rfl fun a E => ?_
        refine l_val E ok (y_pickT rfl rfl) rfl rfl fun a E => ?_
        refine l_val E ok (y_pickT rfl rfl) rfl rfl fun a E => ?_
        refine wpList_nil ?_
        obtain rfl := Option.some.inj hF
        exact ⟨rfl, ⟨ok, E.keep [1, 2, 5, 80]⟩⟩
      replace hF := cond_f hc44 hF
      replace E := E.upd 72 hc44 rfl
      refine l_val E ok (y_fieldAddr fo_41_1 rfl) rfl rfl fun a E => ?_
      refine l_val E ok (y_load one_3 rfl (Holds.own 1 rfl rfl)) rfl rfl fun a E => ?_
      refine l_val E ok (y_fieldAddr fo_31_0 rfl) rfl rfl fun a E => ?_
      refine l_val E ok (y_load one_22 rfl (Holds.own 2 rfl rfl)) rfl rfl fun a E => ?_
      refine l_val E ok (y_lenL sl_22 h2 rfl) rfl rfl fun a E => ?_
      refine l_val E ok (y_geq rfl rfl) rfl rfl fun a E => ?_
      refine l_val E ok (y_pickF rfl rfl) rfl rfl fun a E => ?_
      refine l_val E ok (y_pickT rfl rfl) rfl rfl fun a E => ?_
      refine wpList_nil ?_
      obtain rfl := Option.some.inj hF
      exact ⟨rfl, ⟨ok, E.keep [1, 2, 5, 80]⟩⟩
  clear hJ
  intro e a w hO
  obtain ⟨rfl, ok, E⟩ := hO
  refine t_norm ?_
  refine c_if E rfl (fun hc45 => ?_) (fun hc45 => ?_)
  · replace hF := cond_t hc45 hF
    refine wp_seq ?_
    refine c_region ?_
    refine l_val E ok (y_assign rfl) rfl rfl fun a E => ?_
    refine wpList_nil ?_
    refine t_norm ?_
    refine wp_ret ?_
    refine t_ret ?_
    have hret : verify_Proper_R u m0 S false a w := ⟨(ok.drop.drop.drop).down hb0 le_m0, E.d, ⟨rv_t E rfl, trivial⟩⟩
    obtain rfl := Option.some.inj hF
    exact fin _ _ hret
  replace hF := cond_f hc45 hF
  refine wp_skip ?_
  refine t_norm ?_
  refine wp_seq ?_
  refine wp_seq ?_
  refine c_region ?_
  refine l_val E ok (y_fieldAddr fo_41_0 rfl) rfl rfl fun a E => ?_
  refine l_val E ok (y_load one_3 rfl (Holds.own 1 rfl rfl)) rfl rfl fun a E => ?_
  refine wpList_nil ?_
  refine t_norm ?_
  refine wp_block ?_
  refine wp_seq ?_
  refine c_region ?_
  refine l_val E ok (y_eql rfl rfl) rfl rfl fun a E => ?_
  refine l_val E ok (y_assign rfl) rfl rfl fun a E => ?_
  refine wpList_nil ?_
  refine t_norm ?_
  refine c_if E rfl (fun hc46 => ?_) (fun hc46 => ?_)
  · replace hF := cond_t hc46 hF
    refine wp_seq ?_
    refine c_region ?_
    refine l_val E ok (y_fieldAddr fo_41_3 rfl) rfl rfl fun a E => ?_
    refine l_val E ok (y_load one_9 rfl (Holds.own 1 rfl rfl)) rfl rfl fun a E => ?_
    refine l_val E ok (y_sneq rfl rfl) rfl rfl fun a E => ?_
    refine l_val E ok (y_assign rfl) rfl rfl fun a E => ?_
    refine wpList_nil ?_
    refine t_norm ?_
    refine wp_ret ?_
    refine b_ret ?_
    refine t_ret ?_
    have hret : verify_Proper_R u m0 S (x8.S != ([])) a w := ⟨(ok.drop.drop.drop).down hb0 le_m0, E.d, ⟨rv_t E rfl, trivial⟩⟩
    obtain rfl := Option.some.inj hF
    exact fin _ _ hret
  replace hF := cond_f hc46 hF
  refine wp_seq ?_
  refine wp_seq ?_
  refine c_region ?_
  refine l_val E ok (y_eql rfl rfl) rfl rfl fun a E => ?_
  refine l_val E ok (y_assign rfl) rfl rfl fun a E => ?_
  refine wpList_nil ?_
  refine t_norm ?_
  obtain ⟨o47, hJ, hF⟩ := bnd hF
  refine c_mono (Q' := fun e a w => e = .normal ∧ Ok u m24 ([(b27, Obj.cells [(Value.bool r22.1.a), (Value.bool r22.1.b), (Value.bool r22.1.s)].toArray 51 (0, 0))] :: [(b21, Obj.cells [(Value.int .i64 x8.Op), (Value.int .i64 x8.A), (Value.int .i64 x8.B), (Value.string (bs x8.S))].toArray 41 (0, 0))] :: [(b5, Obj.cells [c1, c3].toArray 31 (0, 0))] :: S) w ∧ Env 168 a [(1, (Value.int .i64 i_1)), (2, (Value.pointer (some ⟨b5, 0, none⟩))), (5, (Value.pointer (some ⟨b21, 0, none⟩))), (82, (Value.int .i64 x8.Op)), (88, (Value.bool o47))]) ?_ ?_
  · replace hF := hJ
    clear hJ
    refine c_if E rfl (fun hc48 => ?_) (fun hc48 => ?_)
    · replace hF := cond_t hc48 hF
      refine wp_skip ?_
      obtain rfl := Option.some.inj hF
      exact ⟨rfl, ⟨ok, E.keep [1, 2, 5, 82, 88]⟩⟩
    replace hF := cond_f hc48 hF
    refine wp_seq ?_
    refine c_region ?_
    refine l_val E ok (y_eql rfl rfl) rfl rfl fun a E => ?_
    refine l_val E ok (y_assign rfl) rfl rfl fun a E => ?_
    refine wpList_nil ?_
    refine t_norm ?_
    refine c_if E rfl (fun hc49 => ?_) (fun hc49 => ?_)
    · replace hF := cond_t hc49 hF
      refine wp_skip ?_
      obtain rfl := Option.some.inj hF
      exact ⟨rfl, ⟨ok, E.keep [1, 2, 5, 82, 88]⟩⟩
    replace hF := cond_f hc49 hF
    refine wp_seq ?_
    refine c_region ?_
    refine l_val E ok (y_eql rfl rfl) rfl rfl fun a E => ?_
    refine l_val E ok (y_assign rfl) rfl rfl fun a E => ?_
    refine wpList_nil ?_
    refine t_norm ?_
    refine c_if E rfl (fun hc50 => ?_) (fun hc50 => ?_)
    · replace hF := cond_t hc50 hF
      refine wp_skip ?_
      obtain rfl := Option.some.inj hF
      exact ⟨rfl, ⟨ok, E.keep [1, 2, 5, 82, 88]⟩⟩
    replace hF := cond_f hc50 hF
    refine wp_seq ?_
    refine c_region ?_
    refine l_val E ok (y_eql rfl rfl) rfl rfl fun a E => ?_
    refine l_val E ok (y_assign rfl) rfl rfl fun a E => ?_
    refine wpList_nil ?_
    refine t_norm ?_
    refine c_if E rfl (fun hc51 => ?_) (fun hc51 => ?_)
    · replace hF := cond_t hc51 hF
      refine wp_skip ?_
      obtain rfl := Option.some.inj hF
      exact ⟨rfl, ⟨ok, E.keep [1, 2, 5, 82, 88]⟩⟩
    replace hF := cond_f hc51 hF
    refine c_region ?_
    refine l_val E ok (y_eql rfl rfl) rfl rfl fun a E => ?_
    refine l_val E ok (y_assign rfl) rfl rfl fun a E => ?_
    refine wpList_nil ?_
    obtain rfl := Option.some.inj hF
    exact ⟨rfl, ⟨ok, E.keep [1, 2, 5, 82, 88]⟩⟩
  clear hJ
  intro e a w hO
  obtain ⟨rfl, ok, E⟩ := hO
  refine t_norm ?_
  refine c_if E rfl (fun hc52 => ?_) (fun hc52 => ?_)
  · replace hF := cond_t hc52 hF
    refine wp_seq ?_
    refine c_region ?_
    refine l_val E ok (y_fieldAddr fo_41_3 rfl) rfl rfl fun a E => ?_
    refine l_val E ok (y_load one_9 rfl (Holds.own 1 rfl rfl)) rfl rfl fun a E => ?_
    obtain ⟨r53, e54, hF⟩ := bnd hF
    refine l_call E go_19 rfl (token_Name_w N x8.S l20 e54 hG ok) rfl rfl ?_
    rintro _ w ⟨rfl, ok⟩
    refine ⟨_, rfl, fun a E => ?_⟩
    refine l_val E ok (y_assign rfl) rfl rfl fun a E => ?_
    refine wpList_nil ?_
    refine t_norm ?_
    refine wp_ret ?_
    refine b_ret ?_
    refine t_ret ?_
    have hret : verify_Proper_R u m0 S r53 a w := ⟨(ok.drop.drop.drop).down hb0 le_m0, E.d, ⟨rv_t E rfl, trivial⟩⟩
    obtain rfl := Option.some.inj hF
    exact fin _ _ hret
  replace hF := cond_f hc52 hF
  refine wp_seq ?_
  refine c_region ?_
  refine l_val E ok (y_eql rfl rfl) rfl rfl fun a E => ?_
  refine l_val E ok (y_assign rfl) rfl rfl fun a E => ?_
  refine wpList_nil ?_
  refine t_norm ?_
  refine c_if E rfl (fun hc55 => ?_) (fun hc55 => ?_)
  · replace hF := cond_t hc55 hF
    refine wp_seq ?_
    refine c_region ?_
    refine l_val E ok (y_fieldAddr fo_41_3 rfl) rfl rfl fun a E => ?_
    refine l_val E ok (y_load one_9 rfl (Holds.own 1 rfl rfl)) rfl rfl fun a E => ?_
    refine l_val E ok (y_seql rfl rfl) rfl rfl fun a E => ?_
    refine l_val E ok (y_move rfl) rfl rfl fun a E => ?_
    refine bsplit (x8.S == ([])) (fun hc56 => ?_) (fun hc56 => ?_)
    · replace hF := cond_t hc56 hF
      replace E := E.upd 102 hc56 rfl
      iterate 3 refine l_skip E rfl rfl fun a E => ?_
      refine l_val E ok (y_pickT rfl rfl) rfl rfl fun a E => ?_
      refine l_val E ok (y_move rfl) rfl rfl fun a E => ?_
      iterate 3 refine l_skip E rfl rfl fun a E => ?_
      refine l_val E ok (y_pickT rfl rfl) rfl rfl fun a E => ?_
      refine l_val E ok (y_assign rfl) rfl rfl fun a E => ?_
      refine wpList_nil ?_
      refine t_norm ?_
      refine wp_ret ?_
      refine b_ret ?_
      refine t_ret ?_
      have hret : verify_Proper_R u m0 S true a w := ⟨(ok.drop.drop.drop).down hb0 le_m0, E.d, ⟨rv_t E rfl, trivial⟩⟩
      obtain rfl := Option.some.inj hF
      exact fin _ _ hret
    replace hF := cond_f hc56 hF
    replace E := E.upd 102 hc56 rfl
    refine l_val E ok (y_fieldAddr fo_41_3 rfl) rfl rfl fun a E => ?_
    refine l_val E ok (y_load one_9 rfl (Holds.own 1 rfl rfl)) rfl rfl fun a E => ?_
    refine l_val E ok (y_seql rfl rfl) rfl rfl fun a E => ?_
    refine l_val E ok (y_pickF rfl rfl) rfl rfl fun a E => ?_
    refine l_val E ok (y_move rfl) rfl rfl fun a E => ?_
    refine bsplit (x8.S == ([105, 110, 116, 101, 103, 101, 114])) (fun hc57 => ?_) (fun hc57 => ?_)
    · replace hF := cond_t hc57 hF
      replace E := E.upd 107 hc57 rfl
      iterate 3 refine l_skip E rfl rfl fun a E => ?_
      refine l_val E ok (y_pickT rfl rfl) rfl rfl fun a E => ?_
      refine l_val E ok (y_assign rfl) rfl rfl fun a E => ?_
      refine wpList_nil ?_
      refine t_norm ?_
      refine wp_ret ?_
      refine b_ret ?_
      refine t_ret ?_
      have hret : verify_Proper_R u m0 S true a w := ⟨(ok.drop.drop.drop).down hb0 le_m0, E.d, ⟨rv_t E rfl, trivial⟩⟩
      obtain rfl := Option.some.inj hF
      exact fin _ _ hret
    replace hF := cond_f hc57 hF
    replace E := E.upd 107 hc57 rfl
    refine l_val E ok (y_fieldAddr fo_41_3 rfl) rfl rfl fun a E => ?_
    refine l_val E ok (y_load one_9 rfl (Holds.own 1 rfl rfl)) rfl rfl fun a E => ?_
    refine l_val E ok (y_seql rfl rfl) rfl rfl fun a E => ?_
    refine l_val E ok (y_pickF rfl rfl) rfl rfl fun a E => ?_
    refine l_val E ok (y_assign rfl) rfl rfl fun a E => ?_
    refine wpList_nil ?_
    refine t_norm ?_
    refine wp_ret ?_
    refine b_ret ?_
    refine t_ret ?_
    have hret : verify_Proper_R u m0 S (x8.S == ([112, 101, 114, 99, 101, 110, 116])) a w := ⟨(ok.drop.drop.drop).down hb0 le_m0, E.d, ⟨rv_t E rfl, trivial⟩⟩
    obtain rfl := Option.some.inj hF
    exact fin _ _ hret
  replace hF := cond_f hc55 hF
  refine wp_seq ?_
  refine c_region ?_
  refine l_val E ok (y_eql rfl rfl) rfl rfl fun a E => ?_
  refine l_val E ok (y_assign rfl) rfl rfl fun a E => ?_
  refine wpList_nil ?_
  refine t_norm ?_
  refine c_if E rfl (fun hc58 => ?_) (fun hc58 => ?_)
  · replace hF := cond_t hc58 hF
    refine wp_seq ?_
    refine c_region ?_
    refine l_val E ok (y_fieldAddr fo_41_3 rfl) rfl rfl fun a E => ?_
    refine l_val E ok (y_load one_9 rfl (Holds.own 1 rfl rfl)) rfl rfl fun a E => ?_
    obtain ⟨r59, e60, hF⟩ := bnd hF
    refine l_call E go_20 rfl (verify_skeleton_w N x8.S l20 e60 hG ok) rfl rfl ?_
    rintro _ w ⟨rfl, ok⟩
    refine ⟨_, rfl, fun a E => ?_⟩
    refine l_val E ok (y_assign rfl) rfl rfl fun a E => ?_
    refine wpList_nil ?_
    refine t_norm ?_
    refine wp_ret ?_
    refine b_ret ?_
    refine t_ret ?_
    have hret : verify_Proper_R u m0 S r59 a w := ⟨(ok.drop.drop.drop).down hb0 le_m0, E.d, ⟨rv_t E rfl, trivial⟩⟩
    obtain rfl := Option.some.inj hF
    exact fin _ _ hret
  replace hF := cond_f hc58 hF
  refine wp_seq ?_
  refine c_region ?_
  refine l_val E ok (y_eql rfl rfl) rfl rfl fun a E => ?_
  refine l_val E ok (y_assign rfl) rfl rfl fun a E => ?_
  refine wpList_nil ?_
  refine t_norm ?_
  refine c_if E rfl (fun hc61 => ?_) (fun hc61 => ?_)
  · replace hF := cond_t hc61 hF
    refine wp_seq ?_
    refine c_region ?_
    refine l_val E ok (y_loadAgg (cs := [c1, c3]) agg_31 rfl rfl (Holds.own 2 rfl rfl)) rfl rfl fun a E => ?_
    refine l_val E ok (y_move rfl) rfl rfl fun a E => ?_
    obtain ⟨r62, e63, hF⟩ := bnd hF
    refine l_call E go_21 rfl (verify_alternatives_w N _ c_0 ⟨_, _, rfl, h2, h4⟩ i_1 ri_1 e63 hG ok) rfl rfl ?_
    rintro _ w ⟨rfl, ok⟩
    refine ⟨_, rfl, fun a E => ?_⟩
    refine l_val E ok (y_assign rfl) rfl rfl fun a E => ?_
    refine wpList_nil ?_
    refine t_norm ?_
    refine wp_ret ?_
    refine b_ret ?_
    refine t_ret ?_
    have hret : verify_Proper_R u m0 S r62 a w := ⟨(ok.drop.drop.drop).down hb0 le_m0, E.d, ⟨rv_t E rfl, trivial⟩⟩
    obtain rfl := Option.some.inj hF
    exact fin _ _ hret
  replace hF := cond_f hc61 hF
  refine wp_seq ?_
  refine c_region ?_
  refine l_val E ok (y_eql rfl rfl) rfl rfl fun a E => ?_
  refine l_val E ok (y_assign rfl) rfl rfl fun a E => ?_
  refine wpList_nil ?_
  refine t_norm ?_
  refine c_if E rfl (fun hc64 => ?_) (fun hc64 => ?_)
  rotate_left
  · replace hF := cond_f hc64 hF
    refine wp_seq ?_
    refine c_region ?_
    refine l_val E ok (y_eql rfl rfl) rfl rfl fun a E => ?_
    refine l_val E ok (y_assign rfl) rfl rfl fun a E => ?_
    refine wpList_nil ?_
    refine t_norm ?_
    refine c_if E rfl (fun hc98 => ?_) (fun hc98 => ?_)
    · replace hF := cond_t hc98 hF
      refine wp_seq ?_
      refine c_region ?_
      refine l_val E ok (y_loadAgg (cs := [c1, c3]) agg_31 rfl rfl (Holds.own 2 rfl rfl)) rfl rfl fun a E => ?_
      refine l_val E ok (y_move rfl) rfl rfl fun a E => ?_
      refine l_val E ok (y_fieldAddr fo_41_1 rfl) rfl rfl fun a E => ?_
      refine l_val E ok (y_load one_3 rfl (Holds.own 1 rfl rfl)) rfl rfl fun a E => ?_
      obtain ⟨r99, e100, hF⟩ := bnd hF
      refine l_call E go_22 rfl (verify_target_w N _ c_0 ⟨_, _, rfl, h2, h4⟩ i_1 ri_1 x8.A r18 e100 hG ok) rfl rfl ?_
      rintro _ w ⟨rfl, ok⟩
      refine ⟨_, rfl, fun a E => ?_⟩
      refine l_val E ok (y_assign rfl) rfl rfl fun a E => ?_
      refine wpList_nil ?_
      refine t_norm ?_
      refine wp_ret ?_
      refine b_ret ?_
      refine t_ret ?_
      have hret : verify_Proper_R u m0 S r99 a w := ⟨(ok.drop.drop.drop).down hb0 le_m0, E.d, ⟨rv_t E rfl, trivial⟩⟩
      obtain rfl := Option.some.inj hF
      exact fin _ _ hret
    replace hF := cond_f hc98 hF
    refine wp_seq ?_
    refine c_region ?_
    refine l_val E ok (y_eql rfl rfl) rfl rfl fun a E => ?_
    refine l_val E ok (y_assign rfl) rfl rfl fun a E => ?_
    refine wpList_nil ?_
    refine t_norm ?_
    refine c_if E rfl (fun hc101 => ?_) (fun hc101 => ?_)
    rotate_left
    · replace hF := cond_f hc101 hF
      refine wp_skip ?_
      refine b_norm ?_
      refine t_norm ?_
      refine wp_seq ?_
      refine c_region ?_
      refine l_val E ok (y_assign rfl) rfl rfl fun a E => ?_
      refine wpList_nil ?_
      refine t_norm ?_
      refine wp_ret ?_
      have hret : verify_Proper_R u m0 S true a w := ⟨(ok.drop.drop.drop).down hb0 le_m0, E.d, ⟨rv_t E rfl, trivial⟩⟩
      obtain rfl := Option.some.inj hF
      exact fin _ _ hret
    replace hF := cond_t hc101 hF
    refine wp_seq ?_
    refine c_region ?_
    refine l_val E ok (y_move rfl) rfl rfl fun a E => ?_
    refine l_val E ok (y_fieldAddr fo_31_1 rfl) rfl rfl fun a E => ?_
    refine l_val E ok (y_load one_29 rfl (Holds.own 2 rfl rfl)) rfl rfl fun a E => ?_
    refine l_val E ok (y_lenL sl_29 h4 rfl) rfl rfl fun a E => ?_
    refine l_val E ok (y_subw rfl rfl) rfl rfl fun a E => ?_
    refine l_val E ok (y_eql rfl rfl) rfl rfl fun a E => ?_
    refine l_val E ok (y_assign rfl) rfl rfl fun a E => ?_
    refine wpList_nil ?_
    refine t_norm ?_
    refine wp_ret ?_
    refine b_ret ?_
    refine t_ret ?_
    have hret : verify_Proper_R u m0 S (i_1 == (IntKind.wrap .i64 ((c_0.Ins.length : Int) - 1))) a w := ⟨(ok.drop.drop.drop).down hb0 le_m0, E.d, ⟨rv_t E rfl, trivial⟩⟩
    obtain rfl := Option.some.inj hF
    exact fin _ _ hret
  replace hF := cond_t hc64 hF
  refine wp_seq ?_
  refine c_region ?_
  refine l_val E ok (y_move rfl) rfl rfl fun a E => ?_
  refine l_val E ok (y_gtr rfl rfl) rfl rfl fun a E => ?_
  refine l_val E ok (y_move rfl) rfl rfl fun a E => ?_
  refine bsplit (decide (i_1 > 0)) (fun hc65 => ?_) (fun hc65 => ?_)
  rotate_left
  · replace hF := cond_f hc65 hF
    replace E := E.upd 126 hc65 rfl
    iterate 18 refine l_skip E rfl rfl fun a E => ?_
    refine l_val E ok (y_pickF rfl rfl) rfl rfl fun a E => ?_
    refine l_val E ok (y_move rfl) rfl rfl fun a E => ?_
    iterate 5 refine l_skip E rfl rfl fun a E => ?_
    refine l_val E ok (y_pickF rfl rfl) rfl rfl fun a E => ?_
    refine l_val E ok (y_assign rfl) rfl rfl fun a E => ?_
    refine wpList_nil ?_
    refine t_norm ?_
    refine wp_ret ?_
    refine b_ret ?_
    refine t_ret ?_
    have hret : verify_Proper_R u m0 S false a w := ⟨(ok.drop.drop.drop).down hb0 le_m0, E.d, ⟨rv_t E rfl, trivial⟩⟩
    obtain rfl := Option.some.inj hF
    exact fin _ _ hret
  replace hF := cond_t hc65 hF
  replace E := E.upd 126 hc65 rfl
  refine l_val E ok (y_fieldAddr fo_31_1 rfl) rfl rfl fun a E => ?_
  refine l_val E ok (y_load one_29 rfl (Holds.own 2 rfl rfl)) rfl rfl fun a E => ?_
  refine l_val E ok (y_move rfl) rfl rfl fun a E => ?_
  refine l_val E ok (y_sub rfl rfl (InR.dec ri_1 (show InR .i64 (0) by decide) hc65)) rfl rfl fun a E => ?_
  obtain ⟨x66, e67, hF⟩ := bnd hF
  obtain ⟨b68, o69, es70, hl71, rr72, at73, yy74⟩ := idxAt sl_29 h4 e67 (P := Tryd.prog) (X := .tmp 128) (I := .tmp 130) (kd := .i64) (ev_of E rfl) (ev_of E rfl)
  obtain ⟨rfl, r75, r76, r77, l78⟩ := rr72
  refine l_val E ok (yy74 _ _) rfl rfl fun a E => ?_
  refine l_val E ok (y_fieldAddr fo_41_0 rfl) rfl rfl fun a E => ?_
  refine l_val E ok (y_load one_3 rfl (Holds.ro (At.sub 0 1 at73))) rfl rfl fun a E => ?_
  refine l_val E ok (y_eql rfl rfl) rfl rfl fun a E => ?_
  refine l_val E ok (y_move rfl) rfl rfl fun a E => ?_
  refine bsplit (x66.Op == 10) (fun hc79 => ?_) (fun hc79 => ?_)
  · replace hF := cond_t hc79 hF
    replace E := E.upd 135 hc79 rfl
    iterate 8 refine l_skip E rfl rfl fun a E => ?_
    refine l_val E ok (y_pickT rfl rfl) rfl rfl fun a E => ?_
    refine l_val E ok (y_pickT rfl rfl) rfl rfl fun a E => ?_
    refine l_val E ok (y_move rfl) rfl rfl fun a E => ?_
    refine l_val E ok (y_loadAgg (cs := [c1, c3]) agg_31 rfl rfl (Holds.own 2 rfl rfl)) rfl rfl fun a E => ?_
    refine l_val E ok (y_move rfl) rfl rfl fun a E => ?_
    refine l_val E ok (y_fieldAddr fo_41_1 rfl) rfl rfl fun a E => ?_
    refine l_val E ok (y_load one_3 rfl (Holds.own 1 rfl rfl)) rfl rfl fun a E => ?_
    obtain ⟨r80, e81, hF⟩ := bnd hF
    refine l_call E go_22 rfl (verify_target_w N _ c_0 ⟨_, _, rfl, h2, h4⟩ i_1 ri_1 x8.A r18 e81 hG ok) rfl rfl ?_
    rintro _ w ⟨rfl, ok⟩
    refine ⟨_, rfl, fun a E => ?_⟩
    refine l_val E ok (y_pickT rfl rfl) rfl rfl fun a E => ?_
    refine l_val E ok (y_assign rfl) rfl rfl fun a E => ?_
    refine wpList_nil ?_
    refine t_norm ?_
    refine wp_ret ?_
    refine b_ret ?_
    refine t_ret ?_
    have hret : verify_Proper_R u m0 S r80 a w := ⟨(ok.drop.drop.drop).down hb0 le_m0, E.d, ⟨rv_t E rfl, trivial⟩⟩
    obtain rfl := Option.some.inj hF
    exact fin _ _ hret
  replace hF := cond_f hc79 hF
  replace E := E.upd 135 hc79 rfl
  refine l_val E ok (y_fieldAddr fo_31_1 rfl) rfl rfl fun a E => ?_
  refine l_val E ok (y_load one_29 rfl (Holds.own 2 rfl rfl)) rfl rfl fun a E => ?_
  refine l_val E ok (y_move rfl) rfl rfl fun a E => ?_
  refine l_val E ok (y_sub rfl rfl (InR.dec ri_1 (show InR .i64 (0) by decide) hc65)) rfl rfl fun a E => ?_
  obtain ⟨x82, e83, hF⟩ := bnd hF
  obtain ⟨b84, o85, es86, hl87, rr88, at89, yy90⟩ := idxAt sl_29 h4 e83 (P := Tryd.prog) (X := .tmp 137) (I := .tmp 139) (kd := .i64) (ev_of E rfl) (ev_of E rfl)
  obtain ⟨rfl, r91, r92, r93, l94⟩ := rr88
  refine l_val E ok (yy90 _ _) rfl rfl fun a E => ?_
  refine l_val E ok (y_fieldAddr fo_41_0 rfl) rfl rfl fun a E => ?_
  refine l_val E ok (y_load one_3 rfl (Holds.ro (At.sub 0 1 at89))) rfl rfl fun a E => ?_
  refine l_val E ok (y_eql rfl rfl) rfl rfl fun a E => ?_
  refine l_val E ok (y_pickF rfl rfl) rfl rfl fun a E => ?_
  refine l_val E ok (y_pickT rfl rfl) rfl rfl fun a E => ?_
  refine l_val E ok (y_move rfl) rfl rfl fun a E => ?_
  refine bsplit (x82.Op == 11) (fun hc95 => ?_) (fun hc95 => ?_)
  rotate_left
  · replace hF := cond_f hc95 hF
    replace E := E.upd 146 hc95 rfl
    iterate 5 refine l_skip E rfl rfl fun a E => ?_
    refine l_val E ok (y_pickF rfl rfl) rfl rfl fun a E => ?_
    refine l_val E ok (y_assign rfl) rfl rfl fun a E => ?_
    refine wpList_nil ?_
    refine t_norm ?_
    refine wp_ret ?_
    refine b_ret ?_
    refine t_ret ?_
    have hret : verify_Proper_R u m0 S false a w := ⟨(ok.drop.drop.drop).down hb0 le_m0, E.d, ⟨rv_t E rfl, trivial⟩⟩
    obtain rfl := Option.some.inj hF
    exact fin _ _ hret
  replace hF := cond_t hc95 hF
  replace E := E.upd 146 hc95 rfl
  refine l_val E ok (y_loadAgg (cs := [c1, c3]) agg_31 rfl rfl (Holds.own 2 rfl rfl)) rfl rfl fun a E => ?_
  refine l_val E ok (y_move rfl) rfl rfl fun a E => ?_
  refine l_val E ok (y_fieldAddr fo_41_1 rfl) rfl rfl fun a E => ?_
  refine l_val E ok (y_load one_3 rfl (Holds.own 1 rfl rfl)) rfl rfl fun a E => ?_
  obtain ⟨r96, e97, hF⟩ := bnd hF
  refine l_call E go_22 rfl (verify_target_w N _ c_0 ⟨_, _, rfl, h2, h4⟩ i_1 ri_1 x8.A r18 e97 hG ok) rfl rfl ?_
  rintro _ w ⟨rfl, ok⟩
  refine ⟨_, rfl, fun a E => ?_⟩
  refine l_val E ok (y_pickT rfl rfl) rfl rfl fun a E => ?_
  refine l_val E ok (y_assign rfl) rfl rfl fun a E => ?_
  refine wpList_nil ?_
  refine t_norm ?_
  refine wp_ret ?_
  refine b_ret ?_
  refine t_ret ?_
  have hret : verify_Proper_R u m0 S r96 a w := ⟨(ok.drop.drop.drop).down hb0 le_m0, E.d, ⟨rv_t E rfl, trivial⟩⟩
  obtain rfl := Option.some.inj hF
  exact fin _ _ hret

def verify_named_R (u : World) (m0 : Mem) (S : Segs) (r : Bool) (a : Act) (w : World) : Prop :=
  Ok u m0 S w ∧ a.defers = [] ∧ RVs Tryd.prog a w [.t 2 (.bool r)]
set_option maxHeartbeats 4000000 in
set_option maxRecDepth 100000 in
theorem verify_named_w {u : World} {m0 : Mem} {S : Segs} {w : World} (N : Nat) (vl_0 : Value) (l_0 : List (List UInt8)) (hl_0 : (pL 1 pS) m0 [vl_0] l_0) {r : Bool} (hF : verify_named N l_0 = some r) (hG : Glob u) (ok : Ok u m0 S w) :
    Calls Tryd.prog 37 [vl_0].toArray w fun e w' => (e = .returned (.bool r) ∧ Ok u m0 S w') := by
  have hb0 := ok.base
  have le_m0 := Mem.le.refl m0
  unfold verify_named at hF
  have fin : ∀ a w, verify_named_R u m0 S r a w → bodyPost Tryd.prog Tryd.f37 (fun e w' => (e = .returned (.bool r) ∧ Ok u m0 S w')) .ret a w := by
    intro a w h
    obtain ⟨ok, hd, hrv⟩ := h
    exact c_ret2 [.t 2 (.bool r)] hd rfl hrv ⟨rfl, ok⟩
  refine enter Tryd.func37 rfl rfl rfl fun a E => ?_
  refine wp_seq ?_
  refine c_region ?_
  refine l_val E ok (y_assign rfl) rfl rfl fun a E => ?_
  refine wpList_nil ?_
  refine t_norm ?_
  refine wp_seq ?_
  refine c_region ?_
  refine l_makeMap kS (oneV pB) E ok rfl rfl fun c1 M2 a w E ok h3 => ?_
  refine l_val E ok (y_assign rfl) rfl rfl fun a E => ?_
  refine wpList_nil ?_
  refine t_norm ?_
  refine wp_seq ?_
  refine wp_seq ?_
  refine c_region ?_
  refine l_val E ok (y_move rfl) rfl rfl fun a E => ?_
  refine l_val E ok (y_lenL sl_22 hl_0 rfl) rfl rfl fun a E => ?_
  refine l_val E ok (y_move rfl) rfl rfl fun a E => ?_
  refine wpList_nil ?_
  refine t_norm ?_
  refine wp_block ?_
  obtain ⟨o9, hL, hF⟩ := bnd hF
  refine c_loop _ (fun (s : Int × (List (List UInt8 × Bool))) a w => ∃ c11 M12, Ok u m0 (M12 :: S) w ∧ Env 27 a [(0, vl_0), (3, c11), (7, vl_0), (8, (Value.int .i64 (l_0.length : Int))), (9, (Value.int .i64 s.1))] ∧ InR .i64 s.1 ∧ OMap kS (oneV pB) m0 c11 s.2 M12) (fun (b : (Unit ⊕ Bool)) e a w => (Sum.elim (fun b43 => e = (.exit 0) ∧ Ok u m0 (S) w ∧ Env 27 a [(0, vl_0)]) (fun b44 => e = .ret ∧ verify_named_R u m0 S b44 a w)) b) ?_ ?_ N _ a w hL ⟨c1, M2, ok, E.keep [0, 3, 7, 8, 9], (show InR .i64 (0) by decide), h3⟩
  rotate_left
  · intro e a w _ hO
    rcases o9 with o9 | o9
    rotate_left
    · replace hF := elim_r hF
      obtain ⟨rfl, hret⟩ := hO
      refine b_ret ?_
      refine t_ret ?_
      obtain rfl := Option.some.inj hF
      exact fin _ _ hret
    replace hF := elim_l hF
    obtain ⟨rfl, ok, E⟩ := hO
    refine b_hit ?_
    refine t_norm ?_
    refine wp_seq ?_
    refine c_region ?_
    refine l_val E ok (y_move rfl) rfl rfl fun a E => ?_
    refine l_val E ok (y_lenL sl_22 hl_0 rfl) rfl rfl fun a E => ?_
    refine l_val E ok (y_leq rfl rfl) rfl rfl fun a E => ?_
    refine l_val E ok (y_assign rfl) rfl rfl fun a E => ?_
    refine wpList_nil ?_
    refine t_norm ?_
    refine wp_ret ?_
    have hret : verify_named_R u m0 S (decide ((l_0.length : Int) ≤ 20)) a w := ⟨ok, E.d, ⟨rv_t E rfl, trivial⟩⟩
    obtain rfl := Option.some.inj hF
    exact fin _ _ hret
  rintro ⟨x_14, seen_15⟩ a w r ⟨c17, M18, ok, E, r16, h19⟩ hF
  replace hF : verify_named_b1 N l_0 x_14 seen_15 = some r := hF
  unfold verify_named_b1 at hF
  refine wp_seq ?_
  refine c_region ?_
  refine l_val E ok (y_lss rfl rfl) rfl rfl fun a E => ?_
  refine wpList_nil ?_
  refine t_norm ?_
  refine wp_seq ?_
  refine c_if E rfl (fun hc20 => ?_) (fun hc20 => ?_)
  rotate_left
  · replace hF := cond_f hc20 hF
    refine wp_exit ?_
    refine t_exit ?_
    obtain rfl := Option.some.inj hF
    exact step_o (by nofun) (sl ⟨rfl, ⟨(ok.pk 1 [] rfl (by decide)), E.keep [0]⟩⟩)
  replace hF := cond_t hc20 hF
  refine wp_skip ?_
  refine t_norm ?_
  refine wp_seq ?_
  refine wp_block ?_
  refine wp_seq ?_
  refine c_region ?_
  obtain ⟨x21, e22, hF⟩ := bnd hF
  obtain ⟨b23, o24, es25, hl26, rr27, at28, yy29⟩ := idxAt sl_22 hl_0 e22 (P := Tryd.prog) (X := .tmp 7) (I := .tmp 9) (kd := .i64) (ev_of E rfl) (ev_of E rfl)
  obtain ⟨rfl, l30⟩ := rr27
  refine l_val E ok (yy29 _ _) rfl rfl fun a E => ?_
  refine l_val E ok (y_load one_9 rfl (Holds.ro at28)) rfl rfl fun a E => ?_
  refine l_val E ok (y_assign rfl) rfl rfl fun a E => ?_
  refine wpList_nil ?_
  refine t_norm ?_
  refine wp_seq ?_
  refine wp_seq ?_
  refine c_region ?_
  refine l_val E ok (y_move rfl) rfl rfl fun a E => ?_
  obtain ⟨r31, e32, hF⟩ := bnd hF
  refine l_call E go_19 rfl (token_Name_w N x21 l30 e32 hG ok) rfl rfl ?_
  rintro _ w ⟨rfl, ok⟩
  refine ⟨_, rfl, fun a E => ?_⟩
  refine l_val E ok (y_not rfl) rfl rfl fun a E => ?_
  refine l_val E ok (y_move rfl) rfl rfl fun a E => ?_
  refine bsplit (!r31) (fun hc33 => ?_) (fun hc33 => ?_)
  · replace hF := cond_t hc33 hF
    replace E := E.upd 16 hc33 rfl
    iterate 3 refine l_skip E rfl rfl fun a E => ?_
    refine l_val E ok (y_pickT rfl rfl) rfl rfl fun a E => ?_
    refine wpList_nil ?_
    refine t_norm ?_
    refine c_if E rfl (fun _ => ?_) (fun h => by cases h)
    refine wp_seq ?_
    refine c_region ?_
    refine l_val E ok (y_assign rfl) rfl rfl fun a E => ?_
    refine wpList_nil ?_
    refine t_norm ?_
    refine wp_ret ?_
    refine t_ret ?_
    refine b_ret ?_
    refine t_ret ?_
    have hret : verify_named_R u m0 S false a w := ⟨ok.drop, E.d, ⟨rv_t E rfl, trivial⟩⟩
    obtain rfl := Option.some.inj hF
    exact step_o (by nofun) (sr ⟨rfl, hret⟩)
  replace hF := cond_f hc33 hF
  replace E := E.upd 16 hc33 rfl
  refine l_val E ok (y_move rfl) rfl rfl fun a E => ?_
  refine l_val E ok (y_move rfl) rfl rfl fun a E => ?_
  obtain ⟨xv34, h35, yy36, yy37⟩ := mlook (P := Tryd.prog) (mo := .tmp 17) (ko := .tmp 18) (zx := (false : Bool)) ok 0 (keyR_str Tryd.underlying9) Tryd.underlying72 h19 rfl (ev_of E rfl) (ev_of E rfl) ⟨rfl, l30⟩ zeroV_4 pB_mk
  obtain rfl := pB_inv h35
  refine l_val E ok (yy36 _) rfl rfl fun a E => ?_
  refine l_val E ok (y_pickF rfl rfl) rfl rfl fun a E => ?_
  refine wpList_nil ?_
  refine t_norm ?_
  refine c_if E rfl (fun hc38 => ?_) (fun hc38 => ?_)
  · replace hF := cond_t hc38 hF
    refine wp_seq ?_
    refine c_region ?_
    refine l_val E ok (y_assign rfl) rfl rfl fun a E => ?_
    refine wpList_nil ?_
    refine t_norm ?_
    refine wp_ret ?_
    refine t_ret ?_
    refine b_ret ?_
    refine t_ret ?_
    have hret : verify_named_R u m0 S false a w := ⟨ok.drop, E.d, ⟨rv_t E rfl, trivial⟩⟩
    obtain rfl := Option.some.inj hF
    exact step_o (by nofun) (sr ⟨rfl, hret⟩)
  replace hF := cond_f hc38 hF
  refine wp_skip ?_
  refine t_norm ?_
  refine c_region ?_
  refine l_val E ok (y_move rfl) rfl rfl fun a E => ?_
  refine l_val E ok (y_move rfl) rfl rfl fun a E => ?_
  obtain ⟨l39, e40, hF⟩ := bnd hF
  refine l_mset (.inl rfl) E ok 0 (keyR_str Tryd.underlying9) Tryd.underlying72 h19 rfl rfl rfl rfl ⟨rfl, l30⟩ pB_mk e40 rfl fun M41 w ok h42 => ?_
  refine wpList_nil ?_
  refine b_norm ?_
  refine t_norm ?_
  refine c_region ?_
  refine l_val E ok (y_add rfl rfl (InR.inc r16 (pL_InR hl_0) hc20)) rfl rfl fun a E => ?_
  refine l_val E ok (y_move rfl) rfl rfl fun a E => ?_
  refine wpList_nil ?_
  obtain rfl := Option.some.inj hF
  exact step_n ⟨c17, M41, ok, E.keep [0, 3, 7, 8, 9], (InR.inc r16 (pL_InR hl_0) hc20), h42⟩

def verify_same_R (u : World) (m0 : Mem) (S : Segs) (r : Bool) (a : Act) (w : World) : Prop :=
  Ok u m0 S w ∧ a.defers = [] ∧ RVs Tryd.prog a w [.t 4 (.bool r)]
set_option maxHeartbeats 4000000 in
set_option maxRecDepth 100000 in
theorem verify_same_w {u : World} {m0 : Mem} {S : Segs} {w : World} (N : Nat) (va : Value) (xs : List (List UInt8)) (ha : (pK 1 pS) m0 [va] xs) (vb : Value) (ys : List (List UInt8)) (hb : (pK 1 pS) m0 [vb] ys) {r : Bool} (hF : verify_same N xs ys = some r) (hG : Glob u) (ok : Ok u m0 S w) :
    Calls Tryd.prog 52 [va, vb].toArray w fun e w' => (e = .returned (.bool r) ∧ Ok u m0 S w') := by
  obtain rfl := Option.some.inj hF
  obtain ⟨j82, hi82, hj82⟩ : ∃ j, Tryd.prog.info? 82 = some j ∧ j.size ≠ 0 := ⟨_, rfl, of_decide_eq_true (by kernel_rfl)⟩
  have fin : ∀ a w, verify_same_R u m0 S (xs == ys) a w → bodyPost Tryd.prog Tryd.f52 (fun e w' => (e = .returned (.bool (xs == ys)) ∧ Ok u m0 S w')) .ret a w := by
    intro a w h
    obtain ⟨ok, hd, hrv⟩ := h
    exact c_ret2 [.t 4 (.bool (xs == ys))] hd rfl hrv ⟨rfl, ok⟩
  refine enter Tryd.func52 rfl rfl rfl fun a E => ?_
  refine wp_seq ?_
  refine c_region ?_
  refine l_val E ok (y_assign rfl) rfl rfl fun a E => ?_
  refine wpList_nil ?_
  refine t_norm ?_
  refine wp_seq ?_
  refine wp_block ?_
  refine c_loopM (fun n a w => ∃ (va' vb' : Value) (as' bs' : List (List UInt8)), n = as'.length ∧ pK 1 pS m0 [va'] as' ∧ pK 1 pS m0 [vb'] bs' ∧ (xs == ys) = (as' == bs') ∧ Ok u m0 S w ∧ Env 36 a [(0, va'), (1, vb')]) ?_ xs.length a w ⟨va, vb, xs, ys, rfl, ha, hb, rfl, ok, E.keep [0, 1]⟩
  rintro n a w ⟨va, vb, as', bs', rfl, ha, hb, heq, ok, E⟩
  have hx : (as' = [] ∨ bs' = [] ∨ va = vb) → ∀ c : Bool, (c = true ↔ va = vb) → (as' == bs') = c := by
    intro h c hc
    by_cases e : va = vb
    · have h1 : c = true := hc.2 e
      subst e
      rw [pK_inj pS_inj as' bs' _ ha hb, h1]; simp
    · have h1 : c = false := by cases c with
        | false => rfl
        | true => exact absurd (hc.1 rfl) e
      rw [h1, beq_eq_false_iff_ne]
      rintro rfl
      have h2 : as' = [] := by rcases h with h | h | h; exact h; exact h; exact absurd h e
      subst h2
      have e1 := (List.cons.inj (show [va] = [.pointer none] from ha)).1
      have e2 := (List.cons.inj (show [vb] = [.pointer none] from hb)).1
      exact e (e1.trans e2.symm)
  refine wp_seq ?_
  refine wp_seq ?_
  refine c_region ?_
  refine l_val E ok (y_move rfl) rfl rfl fun a E => ?_
  refine l_val E ok (y_knnil Tryd.underlying79 ha rfl rfl) rfl rfl fun a E => ?_
  refine l_val E ok (y_move rfl) rfl rfl fun a E => ?_
  cases as' with
  | nil =>
    iterate 2 refine l_skip E rfl rfl fun a E => ?_
    refine l_val E ok (y_pickF rfl rfl) rfl rfl fun a E => ?_
    refine l_val E ok (y_move rfl) rfl rfl fun a E => ?_
    iterate 3 refine l_skip E rfl rfl fun a E => ?_
    refine l_val E ok (y_pickF rfl rfl) rfl rfl fun a E => ?_
    refine wpList_nil ?_
    refine t_norm ?_
    refine c_if E rfl (fun h => (by cases h)) (fun _ => ?_)
    refine wp_exit ?_
    refine t_exit ?_
    refine .inr ⟨by nofun, ?_⟩
    refine b_hit ?_
    refine t_norm ?_
    refine wp_seq ?_
    refine c_region ?_
    refine l_val E ok (y_move rfl) rfl rfl fun a E => ?_
    refine l_val E ok (y_move rfl) rfl rfl fun a E => ?_
    obtain ⟨c, hc, yq, _⟩ := y_keq (P := Tryd.prog) (u := u) (S := S) (t' := 79) (x := .tmp 33) (y := .tmp 34) Tryd.underlying79 hi82 hj82 ha hb (ev_of E rfl) (ev_of E rfl)
    refine l_val E ok (yq _) rfl rfl fun a E => ?_
    refine l_val E ok (y_assign rfl) rfl rfl fun a E => ?_
    refine wpList_nil ?_
    refine t_norm ?_
    refine wp_ret ?_
    have e : (xs == ys) = c := by rw [heq]; exact hx (.inl rfl) c hc
    exact fin _ _ ⟨ok, E.d, ⟨by rw [e]; exact rv_t E rfl, trivial⟩⟩
  | cons x as2 =>
  refine l_val E ok (y_move rfl) rfl rfl fun a E => ?_
  refine l_val E ok (y_knnil Tryd.underlying79 hb rfl rfl) rfl rfl fun a E => ?_
  refine l_val E ok (y_pickT rfl rfl) rfl rfl fun a E => ?_
  refine l_val E ok (y_move rfl) rfl rfl fun a E => ?_
  cases bs' with
  | nil =>
    iterate 3 refine l_skip E rfl rfl fun a E => ?_
    refine l_val E ok (y_pickF rfl rfl) rfl rfl fun a E => ?_
    refine wpList_nil ?_
    refine t_norm ?_
    refine c_if E rfl (fun h => (by cases h)) (fun _ => ?_)
    refine wp_exit ?_
    refine t_exit ?_
    refine .inr ⟨by nofun, ?_⟩
    refine b_hit ?_
    refine t_norm ?_
    refine wp_seq ?_
    refine c_region ?_
    refine l_val E ok (y_move rfl) rfl rfl fun a E => ?_
    refine l_val E ok (y_move rfl) rfl rfl fun a E => ?_
    obtain ⟨c, hc, yq, _⟩ := y_keq (P := Tryd.prog) (u := u) (S := S) (t' := 79) (x := .tmp 33) (y := .tmp 34) Tryd.underlying79 hi82 hj82 ha hb (ev_of E rfl) (ev_of E rfl)
    refine l_val E ok (yq _) rfl rfl fun a E => ?_
    refine l_val E ok (y_assign rfl) rfl rfl fun a E => ?_
    refine wpList_nil ?_
    refine t_norm ?_
    refine wp_ret ?_
    have e : (xs == ys) = c := by rw [heq]; exact hx (.inr (.inl rfl)) c hc
    exact fin _ _ ⟨ok, E.d, ⟨by rw [e]; exact rv_t E rfl, trivial⟩⟩
  | cons y bs2 =>
  refine l_val E ok (y_move rfl) rfl rfl fun a E => ?_
  refine l_val E ok (y_move rfl) rfl rfl fun a E => ?_
  obtain ⟨c1, hc1, _, yn⟩ := y_keq (P := Tryd.prog) (u := u) (S := S) (t' := 79) (x := .tmp 12) (y := .tmp 13) Tryd.underlying79 hi82 hj82 ha hb (ev_of E rfl) (ev_of E rfl)
  refine l_val E ok (yn _) rfl rfl fun a E => ?_
  refine l_val E ok (y_pickT rfl rfl) rfl rfl fun a E => ?_
  refine wpList_nil ?_
  refine t_norm ?_
  refine c_if E rfl (fun _ => ?_) (fun hne => ?_)
  rotate_left
  · have hv : va = vb := hc1.1 (by simpa using hne)
    refine wp_exit ?_
    refine t_exit ?_
    refine .inr ⟨by nofun, ?_⟩
    refine b_hit ?_
    refine t_norm ?_
    refine wp_seq ?_
    refine c_region ?_
    refine l_val E ok (y_move rfl) rfl rfl fun a E => ?_
    refine l_val E ok (y_move rfl) rfl rfl fun a E => ?_
    obtain ⟨c, hc, yq, _⟩ := y_keq (P := Tryd.prog) (u := u) (S := S) (t' := 79) (x := .tmp 33) (y := .tmp 34) Tryd.underlying79 hi82 hj82 ha hb (ev_of E rfl) (ev_of E rfl)
    refine l_val E ok (yq _) rfl rfl fun a E => ?_
    refine l_val E ok (y_assign rfl) rfl rfl fun a E => ?_
    refine wpList_nil ?_
    refine t_norm ?_
    refine wp_ret ?_
    have e : (xs == ys) = c := by rw [heq]; exact hx (.inr (.inr hv)) c hc
    exact fin _ _ ⟨ok, E.d, ⟨by rw [e]; exact rv_t E rfl, trivial⟩⟩
  refine wp_skip ?_
  refine t_norm ?_
  refine wp_block ?_
  refine wp_seq ?_
  refine wp_seq ?_
  obtain ⟨b1, o1, es1, v1, hv1, hR1, hr1, at1⟩ := pK_unc ha (q := (x, as2)) rfl
  obtain ⟨b2, o2, es2, v2, hv2, hR2, hr2, at2⟩ := pK_unc hb (q := (y, bs2)) rfl
  obtain ⟨rfl, l1⟩ := hR1
  obtain ⟨rfl, l2⟩ := hR2
  refine c_draw (by kernel_rfl) (by kernel_rfl) ok ?_
  refine q_val E (y_move rfl) rfl rfl fun a E => ?_
  refine q_val E (y_nilCheckV hv1 rfl) rfl rfl fun a E => ?_
  refine q_val E (y_fieldAddr fo_82_0 rfl) rfl rfl fun a E => ?_
  refine q_val E (y_load one_9 rfl (Holds.ro (At.sub 0 1 at1))) rfl rfl fun a E => ?_
  refine q_val E (y_move rfl) rfl rfl fun a E => ?_
  refine q_val E (y_nilCheckV hv2 rfl) rfl rfl fun a E => ?_
  refine q_val E (y_fieldAddr fo_82_0 rfl) rfl rfl fun a E => ?_
  refine q_val E (y_load one_9 rfl (Holds.ro (At.sub 0 1 at2))) rfl rfl fun a E => ?_
  refine q_val E (y_sneq rfl rfl) rfl rfl fun a E => ?_
  refine wpQuiet_nil ?_
  intro w ok
  refine t_norm ?_
  refine c_if E rfl (fun hd => ?_) (fun hd => ?_)
  · refine wp_seq ?_
    refine c_region ?_
    refine l_val E ok (y_assign rfl) rfl rfl fun a E => ?_
    refine wpList_nil ?_
    refine t_norm ?_
    refine wp_ret ?_
    refine t_ret ?_
    refine b_ret ?_
    refine .inr ⟨by nofun, ?_⟩
    refine b_ret ?_
    refine t_ret ?_
    have e : (xs == ys) = false := by
      rw [heq, beq_eq_false_iff_ne]
      intro h
      have h1 := (List.cons.inj h).1
      subst h1
      simp at hd
    exact fin _ _ ⟨ok, E.d, ⟨by rw [e]; exact rv_t E rfl, trivial⟩⟩
  refine wp_skip ?_
  refine t_norm ?_
  refine c_draw (by kernel_rfl) (by kernel_rfl) ok ?_
  refine q_val E (y_move rfl) rfl rfl fun a E => ?_
  refine q_val E (y_nilCheckV hv1 rfl) rfl rfl fun a E => ?_
  refine q_val E (y_fieldAddr fo_82_1 rfl) rfl rfl fun a E => ?_
  refine q_val E (y_load one_79 rfl (Holds.ro (At.sub 1 1 at1))) rfl rfl fun a E => ?_
  refine q_val E (y_move rfl) rfl rfl fun a E => ?_
  refine q_val E (y_nilCheckV hv2 rfl) rfl rfl fun a E => ?_
  refine q_val E (y_fieldAddr fo_82_1 rfl) rfl rfl fun a E => ?_
  refine q_val E (y_load one_79 rfl (Holds.ro (At.sub 1 1 at2))) rfl rfl fun a E => ?_
  refine q_val E (y_assign rfl) rfl rfl fun a E => ?_
  refine q_val E (y_assign rfl) rfl rfl fun a E => ?_
  refine wpQuiet_nil ?_
  intro w ok
  refine b_norm ?_
  have hxy : x = y := by simpa using hd
  refine .inl ⟨rfl, as2.length, by simp, v1, v2, as2, bs2, rfl, hr1, hr2, ?_, ok, E.keep [0, 1]⟩
  rw [heq, hxy]
  simp

def verify_flow_lead_R (u : World) (m0 : Mem) (S : Segs) (pb0 : Nat) (x0 : Flow) (c1 : Value) (c3 : Value) (c5 : Value) (M6 : List (Nat × Obj)) (c8 : Value) (M9 : List (Nat × Obj)) (c11 : Value) (M12 : List (Nat × Obj)) (r : Flow) (a : Act) (w : World) : Prop :=
  ∃ m1 c14 c16 c18 M19 c21 M22 c24 M25, m0.le m1 ∧ Ok u m1 ([(pb0, Obj.cells [c14, c16, c18, c21, c24].toArray 66 (0, 0))] :: M19 :: M22 :: M25 :: S) w ∧ a.defers = [] ∧ RVs Tryd.prog a w [] ∧ (pL 1 pS) m1 [c14] r.c.Names ∧ (pL 4 pIns) m1 [c16] r.c.Ins ∧ ORow 79 1 (pK 1 pS) m1 c18 r.open_ M19 ∧ ORow 4 1 pB m1 c21 r.reached M22 ∧ ORow 4 1 pB m1 c24 r.clash M25
set_option maxHeartbeats 4000000 in
set_option maxRecDepth 100000 in
theorem verify_flow_lead_w {u : World} {m0 : Mem} {S : Segs} {w : World} (N : Nat) (to_1 : Int) (rto_1 : InR .i64 to_1) (vopen_2 : Value) (open_2 : List (List UInt8)) (hopen_2 : (pK 1 pS) m0 [vopen_2] open_2) {pb0 : Nat} {c1 : Value} {c3 : Value} {c5 : Value} {M6 : List (Nat × Obj)} {c8 : Value} {M9 : List (Nat × Obj)} {c11 : Value} {M12 : List (Nat × Obj)} (x0 : Flow) (h2 : (pL 1 pS) m0 [c1] x0.c.Names) (h4 : (pL 4 pIns) m0 [c3] x0.c.Ins) (h7 : ORow 79 1 (pK 1 pS) m0 c5 x0.open_ M6) (h10 : ORow 4 1 pB m0 c8 x0.reached M9) (h13 : ORow 4 1 pB m0 c11 x0.clash M12) {r : Flow} (hF : verify_flow_lead N to_1 open_2 x0 = some r) (hG : Glob u) (ok : Ok u m0 ([(pb0, Obj.cells [c1, c3, c5, c8, c11].toArray 66 (0, 0))] :: M6 :: M9 :: M12 :: S) w) :
    Calls Tryd.prog 47 [Value.pointer (some ⟨pb0, 0, none⟩), Value.int .i64 to_1, vopen_2].toArray w fun e w' => ∃ m1 c14 c16 c18 M19 c21 M22 c24 M25, e = .returned (.tuple [].toArray) ∧ m0.le m1 ∧ Ok u m1 ([(pb0, Obj.cells [c14, c16, c18, c21, c24].toArray 66 (0, 0))] :: M19 :: M22 :: M25 :: S) w' ∧ (pL 1 pS) m1 [c14] r.c.Names ∧ (pL 4 pIns) m1 [c16] r.c.Ins ∧ ORow 79 1 (pK 1 pS) m1 c18 r.open_ M19 ∧ ORow 4 1 pB m1 c21 r.reached M22 ∧ ORow 4 1 pB m1 c24 r.clash M25 := by
  have le_m0 := Mem.le.refl m0
  unfold verify_flow_lead at hF
  have fin : ∀ a w, verify_flow_lead_R u m0 S pb0 x0 c1 c3 c5 M6 c8 M9 c11 M12 r a w → bodyPost Tryd.prog Tryd.f47 (fun e w' => ∃ m1 c14 c16 c18 M19 c21 M22 c24 M25, e = .returned (.tuple [].toArray) ∧ m0.le m1 ∧ Ok u m1 ([(pb0, Obj.cells [c14, c16, c18, c21, c24].toArray 66 (0, 0))] :: M19 :: M22 :: M25 :: S) w' ∧ (pL 1 pS) m1 [c14] r.c.Names ∧ (pL 4 pIns) m1 [c16] r.c.Ins ∧ ORow 79 1 (pK 1 pS) m1 c18 r.open_ M19 ∧ ORow 4 1 pB m1 c21 r.reached M22 ∧ ORow 4 1 pB m1 c24 r.clash M25) .ret a w := by
    intro a w h
    obtain ⟨m1, c14, c16, c18, M19, c21, M22, c24, M25, hle, ok, hd, hrv, h0, h1, h2, h3, h4⟩ := h
    exact c_ret2 [] hd rfl hrv ⟨m1, c14, c16, c18, M19, c21, M22, c24, M25, rfl, hle, ok, h0, h1, h2, h3, h4⟩
  refine enter Tryd.func47 rfl rfl rfl fun a E => ?_
  refine wp_seq ?_
  refine wp_seq ?_
  refine c_region ?_
  refine l_val E ok (y_move rfl) rfl rfl fun a E => ?_
  refine l_val E ok (y_nilCheck rfl) rfl rfl fun a E => ?_
  refine l_val E ok (y_fieldAddr fo_66_2 rfl) rfl rfl fun a E => ?_
  refine l_val E ok (y_load one_46 rfl (Holds.own 0 rfl rfl)) rfl rfl fun a E => ?_
  refine l_val E ok (y_move rfl) rfl rfl fun a E => ?_
  obtain ⟨x27, e28, hF⟩ := bnd hF
  obtain ⟨b29, o30, hp31, yy32⟩ := orowAt sl_46 h10 e28 (P := Tryd.prog) (X := .tmp 9) (I := .tmp 10) (kd := .i64) (ev_of E rfl) (ev_of E rfl)
  refine l_val E ok (yy32 _ _) rfl rfl fun a E => ?_
  obtain ⟨es33, hl34, rr35, hh36⟩ := orowGet h10 e28 hp31 (by decide)
  obtain rfl := rr35
  refine l_val E ok (y_load one_4 rfl (hh36 _ _ _ 2 rfl)) rfl rfl fun a E => ?_
  refine wpList_nil ?_
  refine t_norm ?_
  refine c_if E rfl (fun hc37 => ?_) (fun hc37 => ?_)
  rotate_left
  · replace hF := cond_f hc37 hF
    refine wp_skip ?_
    refine t_norm ?_
    obtain ⟨o156, hJ, hF⟩ := bnd hF
    refine c_mono (Q' := fun e a w => e = .normal ∧ ∃ c157 c159 c161 M162 c164 M165 c167 M168, Ok u m0 ([(pb0, Obj.cells [c157, c159, c161, c164, c167].toArray 66 (0, 0))] :: M162 :: M165 :: M168 :: S) w ∧ Env 51 a [] ∧ (pL 1 pS) m0 [c157] o156.c.Names ∧ (pL 4 pIns) m0 [c159] o156.c.Ins ∧ ORow 79 1 (pK 1 pS) m0 c161 o156.open_ M162 ∧ ORow 4 1 pB m0 c164 o156.reached M165 ∧ ORow 4 1 pB m0 c167 o156.clash M168) ?_ ?_
    rotate_left
    · clear hJ
      intro e a w hO
      obtain ⟨rfl, c202, c204, c206, M207, c209, M210, c212, M213, ok, E, h203, h205, h208, h211, h214⟩ := hO
      have hret : verify_flow_lead_R u m0 S pb0 x0 c1 c3 c5 M6 c8 M9 c11 M12 o156 a w := ⟨m0, c202, c204, c206, M207, c209, M210, c212, M213, le_m0, ok, E.d, trivial, h203, h205, h208, h211, h214⟩
      obtain rfl := Option.some.inj hF
      exact fin _ _ hret
    replace hF := hJ
    clear hJ
    obtain ⟨x170, e171, hF⟩ := bnd hF
    obtain ⟨l176, e177, hF⟩ := bnd hF
    obtain ⟨x180, e181, hF⟩ := bnd hF
    obtain ⟨l186, e187, hF⟩ := bnd hF
    obtain rfl := Option.some.inj hF
    refine k_begin [3, 8] (Cls u m0 ([(pb0, Obj.cells [c1, c3, c5, c8, c11].toArray 66 (0, 0))] :: M12 :: [])) (Cls u m0 (M12 :: [])) (by kernel_rfl) ?_
    intro w hw
    replace ok := okdrew ok hw
    clear hw
    refine k_next (cl1 ⟨m0, _, le_m0, ok, ⟨memAt 0 rfl, memAt 3 rfl, trivial⟩⟩ ⟨m0, _, le_m0, ok, ⟨memAt 3 rfl, trivial⟩⟩) fun hT => ?_
    refine k_take 0 E rfl (by kernel_rfl) nP hT (y_move rfl) rfl rfl fun a E => ?_
    refine k_take 1 E rfl (by kernel_rfl) nP hT (y_nilCheck rfl) rfl rfl fun a E => ?_
    refine k_take 2 E rfl (by kernel_rfl) nP hT (y_fieldAddr fo_66_2 rfl) rfl rfl fun a E => ?_
    refine k_takeN 3 E rfl (by kernel_rfl) nP hT (y_load one_46 rfl (Holds.cown 0 rfl rfl)) rfl rfl fun a E => ?_
    refine k_take 4 E rfl (by kernel_rfl) nP hT (y_move rfl) rfl rfl fun a E => ?_
    refine k_take 5 E rfl (by kernel_rfl) nP hT (y_move rfl) rfl rfl fun a E => ?_
    refine k_take 6 E rfl (by kernel_rfl) nP hT (y_nilCheck rfl) rfl rfl fun a E => ?_
    refine k_take 7 E rfl (by kernel_rfl) nP hT (y_fieldAddr fo_66_1 rfl) rfl rfl fun a E => ?_
    refine k_takeN 8 E rfl (by kernel_rfl) nP hT (y_load one_64 rfl (Holds.cown 0 rfl rfl)) rfl rfl fun a E => ?_
    refine k_take 9 E rfl (by kernel_rfl) nP hT (y_move rfl) rfl rfl fun a E => ?_
    refine k_take 10 E rfl (by kernel_rfl) nP hT (y_move rfl) rfl rfl fun a E => ?_
    obtain ⟨b190, o191, hp192, yy193⟩ := orowAt sl_46 h10 e171 (P := Tryd.prog) (X := .tmp 41) (I := .tmp 42) (kd := .i64) (ev_of E rfl) (ev_of E rfl)
    refine k_take 11 E rfl (by kernel_rfl) nP hT (yy193 _ _) rfl rfl fun a E => ?_
    refine k_all [12] (by kernel_rfl) rfl (one_c ?_)
    · refine wpOp_of_list (o := _) rfl ?_
      refine l_storeRow (R := pB) E ok 2 rfl h10 e171 hp192 rfl rfl inf_4 rfl rfl rfl ⟨rfl, trivial⟩ pB_mk e177 rfl fun M194 w ok h195 => ?_
      refine wpList_nil ?_
      refine t_norm ?_
      refine k_next (cl2 (by kernel_rfl) ⟨m0, _, le_m0, ok, ⟨memAt 3 rfl, trivial⟩⟩) fun hT => ?_
      obtain ⟨b196, o197, hp198, yy199⟩ := orowAt sl_64 h7 e181 (P := Tryd.prog) (X := .tmp 46) (I := .tmp 47) (kd := .i64) (ev_of E rfl) (ev_of E rfl)
      refine k_take 13 E rfl (by kernel_rfl) nP hT (yy199 _ _) rfl rfl fun a E => ?_
      refine k_all [14] (by kernel_rfl) rfl (one_c ?_)
      · refine wpOp_of_list (o := _) rfl ?_
        refine l_storeRow (R := (pK 1 pS)) E ok 1 rfl h7 e181 hp198 rfl rfl inf_79 (pK_cells hopen_2) rfl rfl ⟨(pK_one hopen_2), trivial⟩ hopen_2 e187 rfl fun M200 w ok h201 => ?_
        refine wpList_nil ?_
        refine t_norm ?_
        refine k_next (cl2 (by kernel_rfl) ⟨m0, _, le_m0, ok, ⟨memAt 3 rfl, trivial⟩⟩) fun hT => ?_
        refine k_done (by kernel_rfl) ?_
        exact ⟨rfl, ⟨c1, c3, c5, M200, c8, M194, c11, M12, ok, E.keep [], h2, h4, h201, h195, h13⟩⟩
  replace hF := cond_t hc37 hF
  refine wp_seq ?_
  obtain ⟨o38, hJ, hF⟩ := bnd hF
  refine c_mono (Q' := fun e a w => e = .normal ∧ ∃ c39 c41 c43 M44 c46 M47 c49 M50, Ok u m0 ([(pb0, Obj.cells [c39, c41, c43, c46, c49].toArray 66 (0, 0))] :: M44 :: M47 :: M50 :: S) w ∧ Env 51 a [] ∧ (pL 1 pS) m0 [c39] o38.c.Names ∧ (pL 4 pIns) m0 [c41] o38.c.Ins ∧ ORow 79 1 (pK 1 pS) m0 c43 o38.open_ M44 ∧ ORow 4 1 pB m0 c46 o38.reached M47 ∧ ORow 4 1 pB m0 c49 o38.clash M50) ?_ ?_
  rotate_left
  · clear hJ
    intro e a w hO
    obtain ⟨rfl, c143, c145, c147, M148, c150, M151, c153, M154, ok, E, h144, h146, h149, h152, h155⟩ := hO
    refine t_norm ?_
    refine wp_ret ?_
    refine t_ret ?_
    have hret : verify_flow_lead_R u m0 S pb0 x0 c1 c3 c5 M6 c8 M9 c11 M12 o38 a w := ⟨m0, c143, c145, c147, M148, c150, M151, c153, M154, le_m0, ok, E.d, trivial, h144, h146, h149, h152, h155⟩
    obtain rfl := Option.some.inj hF
    exact fin _ _ hret
  replace hF := hJ
  clear hJ
  obtain ⟨x52, e53, hF⟩ := bnd hF
  refine bsplit x52 (fun hc62 => ?_) (fun hc62 => ?_)
  · replace hF := cond_t hc62 hF
    obtain ⟨x63, e64, hF⟩ := bnd hF
    obtain ⟨l69, e70, hF⟩ := bnd hF
    obtain rfl := Option.some.inj hF
    refine k_begin [3, 8, 11, 16, 19] (Cls u m0 ([(pb0, Obj.cells [c1, c3, c5, c8, c11].toArray 66 (0, 0))] :: M6 :: M9 :: [])) (Cls u m0 (M6 :: M9 :: [])) (by kernel_rfl) ?_
    intro w hw
    replace ok := okdrew ok hw
    clear hw
    refine k_next (cl1 ⟨m0, _, le_m0, ok, ⟨memAt 0 rfl, memAt 1 rfl, memAt 2 rfl, trivial⟩⟩ ⟨m0, _, le_m0, ok, ⟨memAt 1 rfl, memAt 2 rfl, trivial⟩⟩) fun hT => ?_
    refine k_take 0 E rfl (by kernel_rfl) nP hT (y_move rfl) rfl rfl fun a E => ?_
    refine k_take 1 E rfl (by kernel_rfl) nP hT (y_nilCheck rfl) rfl rfl fun a E => ?_
    refine k_take 2 E rfl (by kernel_rfl) nP hT (y_fieldAddr fo_66_3 rfl) rfl rfl fun a E => ?_
    refine k_takeN 3 E rfl (by kernel_rfl) nP hT (y_load one_46 rfl (Holds.cown 0 rfl rfl)) rfl rfl fun a E => ?_
    refine k_take 4 E rfl (by kernel_rfl) nP hT (y_move rfl) rfl rfl fun a E => ?_
    refine k_take 5 E rfl (by kernel_rfl) nP hT (y_move rfl) rfl rfl fun a E => ?_
    refine k_take 6 E rfl (by kernel_rfl) nP hT (y_nilCheck rfl) rfl rfl fun a E => ?_
    refine k_take 7 E rfl (by kernel_rfl) nP hT (y_fieldAddr fo_66_3 rfl) rfl rfl fun a E => ?_
    refine k_takeN 8 E rfl (by kernel_rfl) nP hT (y_load one_46 rfl (Holds.cown 0 rfl rfl)) rfl rfl fun a E => ?_
    refine k_take 9 E rfl (by kernel_rfl) nP hT (y_move rfl) rfl rfl fun a E => ?_
    obtain ⟨b73, o74, hp75, yy76⟩ := orowAt sl_46 h13 e53 (P := Tryd.prog) (X := .tmp 21) (I := .tmp 22) (kd := .i64) (ev_of E rfl) (ev_of E rfl)
    refine k_take 10 E rfl (by kernel_rfl) nP hT (yy76 _ _) rfl rfl fun a E => ?_
    refine k_all [11] (by kernel_rfl) rfl (one_c ?_)
    · refine wpOp_of_list (o := _) rfl ?_
      obtain ⟨es81, hl82, rr83, hh84⟩ := orowGet h13 e53 hp75 (by decide)
      obtain rfl := rr83
      refine l_val E ok (y_load one_4 rfl (hh84 _ _ _ 3 rfl)) rfl rfl fun a E => ?_
      refine wpList_nil ?_
      refine t_norm ?_
      refine k_next (cl1 ⟨m0, _, le_m0, ok, ⟨memAt 0 rfl, memAt 1 rfl, memAt 2 rfl, trivial⟩⟩ ⟨m0, _, le_m0, ok, ⟨memAt 1 rfl, memAt 2 rfl, trivial⟩⟩) fun hT => ?_
      refine k_take 12 E rfl (by kernel_rfl) nP hT (y_move rfl) rfl rfl fun a E => ?_
      replace E := E.upd 25 hc62 rfl
      refine k_skip 13 false E rfl (by kernel_rfl) nP hT rfl rfl fun a E => ?_
      refine k_skip 14 false E rfl (by kernel_rfl) nP hT rfl rfl fun a E => ?_
      refine k_skip 15 false E rfl (by kernel_rfl) nP hT rfl rfl fun a E => ?_
      refine k_skip 16 true E rfl (by kernel_rfl) nP hT rfl rfl fun a E => ?_
      refine k_skip 17 false E rfl (by kernel_rfl) nP hT rfl rfl fun a E => ?_
      refine k_skip 18 false E rfl (by kernel_rfl) nP hT rfl rfl fun a E => ?_
      refine k_skip 19 true E rfl (by kernel_rfl) nP hT rfl rfl fun a E => ?_
      refine k_skip 20 false E rfl (by kernel_rfl) nP hT rfl rfl fun a E => ?_
      refine k_skip 21 false E rfl (by kernel_rfl) nP hT rfl rfl fun a E => ?_
      refine k_skip 22 false E rfl (by kernel_rfl) nP hT rfl rfl fun a E => ?_
      refine k_take 23 E rfl (by kernel_rfl) nP hT (y_pickT rfl rfl) rfl rfl fun a E => ?_
      obtain ⟨b85, o86, hp87, yy88⟩ := orowAt sl_46 h13 e64 (P := Tryd.prog) (X := .tmp 16) (I := .tmp 17) (kd := .i64) (ev_of E rfl) (ev_of E rfl)
      refine k_take 24 E rfl (by kernel_rfl) nP hT (yy88 _ _) rfl rfl fun a E => ?_
      refine k_all [25] (by kernel_rfl) rfl (one_c ?_)
      · refine wpOp_of_list (o := _) rfl ?_
        refine l_storeRow (R := pB) E ok 3 rfl h13 e64 hp87 rfl rfl inf_4 rfl rfl rfl ⟨rfl, trivial⟩ pB_mk e70 rfl fun M89 w ok h90 => ?_
        refine wpList_nil ?_
        refine t_norm ?_
        refine k_next (cl2 (by kernel_rfl) ⟨m0, _, le_m0, ok, ⟨memAt 1 rfl, memAt 2 rfl, trivial⟩⟩) fun hT => ?_
        refine k_done (by kernel_rfl) ?_
        exact ⟨rfl, ⟨c1, c3, c5, M6, c8, M9, c11, M89, ok, E.keep [], h2, h4, h7, h10, h90⟩⟩
  replace hF := cond_f hc62 hF
  obtain ⟨x91, e92, hF⟩ := bnd hF
  obtain ⟨r103, e104, hF⟩ := bnd hF
  obtain ⟨x105, e106, hF⟩ := bnd hF
  obtain ⟨l111, e112, hF⟩ := bnd hF
  obtain rfl := Option.some.inj hF
  refine k_begin [3, 8, 11, 16, 19] (Cls u m0 ([(pb0, Obj.cells [c1, c3, c5, c8, c11].toArray 66 (0, 0))] :: M6 :: M9 :: [])) (Cls u m0 (M6 :: M9 :: [])) (by kernel_rfl) ?_
  intro w hw
  replace ok := okdrew ok hw
  clear hw
  refine k_next (cl1 ⟨m0, _, le_m0, ok, ⟨memAt 0 rfl, memAt 1 rfl, memAt 2 rfl, trivial⟩⟩ ⟨m0, _, le_m0, ok, ⟨memAt 1 rfl, memAt 2 rfl, trivial⟩⟩) fun hT => ?_
  refine k_take 0 E rfl (by kernel_rfl) nP hT (y_move rfl) rfl rfl fun a E => ?_
  refine k_take 1 E rfl (by kernel_rfl) nP hT (y_nilCheck rfl) rfl rfl fun a E => ?_
  refine k_take 2 E rfl (by kernel_rfl) nP hT (y_fieldAddr fo_66_3 rfl) rfl rfl fun a E => ?_
  refine k_takeN 3 E rfl (by kernel_rfl) nP hT (y_load one_46 rfl (Holds.cown 0 rfl rfl)) rfl rfl fun a E => ?_
  refine k_take 4 E rfl (by kernel_rfl) nP hT (y_move rfl) rfl rfl fun a E => ?_
  refine k_take 5 E rfl (by kernel_rfl) nP hT (y_move rfl) rfl rfl fun a E => ?_
  refine k_take 6 E rfl (by kernel_rfl) nP hT (y_nilCheck rfl) rfl rfl fun a E => ?_
  refine k_take 7 E rfl (by kernel_rfl) nP hT (y_fieldAddr fo_66_3 rfl) rfl rfl fun a E => ?_
  refine k_takeN 8 E rfl (by kernel_rfl) nP hT (y_load one_46 rfl (Holds.cown 0 rfl rfl)) rfl rfl fun a E => ?_
  refine k_take 9 E rfl (by kernel_rfl) nP hT (y_move rfl) rfl rfl fun a E => ?_
  obtain ⟨b115, o116, hp117, yy118⟩ := orowAt sl_46 h13 e53 (P := Tryd.prog) (X := .tmp 21) (I := .tmp 22) (kd := .i64) (ev_of E rfl) (ev_of E rfl)
  refine k_take 10 E rfl (by kernel_rfl) nP hT (yy118 _ _) rfl rfl fun a E => ?_
  refine k_all [11] (by kernel_rfl) rfl (one_c ?_)
  · refine wpOp_of_list (o := _) rfl ?_
    obtain ⟨es123, hl124, rr125, hh126⟩ := orowGet h13 e53 hp117 (by decide)
    obtain rfl := rr125
    refine l_val E ok (y_load one_4 rfl (hh126 _ _ _ 3 rfl)) rfl rfl fun a E => ?_
    refine wpList_nil ?_
    refine t_norm ?_
    refine k_next (cl1 ⟨m0, _, le_m0, ok, ⟨memAt 0 rfl, memAt 1 rfl, memAt 2 rfl, trivial⟩⟩ ⟨m0, _, le_m0, ok, ⟨memAt 1 rfl, memAt 2 rfl, trivial⟩⟩) fun hT => ?_
    refine k_take 12 E rfl (by kernel_rfl) nP hT (y_move rfl) rfl rfl fun a E => ?_
    replace E := E.upd 25 hc62 rfl
    refine k_take 13 E rfl (by kernel_rfl) nP hT (y_move rfl) rfl rfl fun a E => ?_
    refine k_take 14 E rfl (by kernel_rfl) nP hT (y_nilCheck rfl) rfl rfl fun a E => ?_
    refine k_take 15 E rfl (by kernel_rfl) nP hT (y_fieldAddr fo_66_1 rfl) rfl rfl fun a E => ?_
    refine k_takeN 16 E rfl (by kernel_rfl) nP hT (y_load one_64 rfl (Holds.cown 0 rfl rfl)) rfl rfl fun a E => ?_
    refine k_take 17 E rfl (by kernel_rfl) nP hT (y_move rfl) rfl rfl fun a E => ?_
    obtain ⟨b127, o128, hp129, yy130⟩ := orowAt sl_64 h7 e92 (P := Tryd.prog) (X := .tmp 29) (I := .tmp 30) (kd := .i64) (ev_of E rfl) (ev_of E rfl)
    refine k_take 18 E rfl (by kernel_rfl) nP hT (yy130 _ _) rfl rfl fun a E => ?_
    obtain ⟨es131, hl132, rr133, hh134⟩ := orowGet h7 e92 hp129 (by decide)
    obtain ⟨c135, rfl, h136⟩ := pK_cell rr133
    refine k_takeN 19 E rfl (by kernel_rfl) nP hT (y_load one_79 rfl (Holds.crow hh134 1 rfl)) rfl rfl fun a E => ?_
    refine k_take 20 E rfl (by kernel_rfl) nP hT (y_move rfl) rfl rfl fun a E => ?_
    refine k_all [21] (by kernel_rfl) rfl (one_c ?_)
    · refine wpOp_of_list (o := _) rfl ?_
      refine l_call E go_52 rfl (verify_same_w N _ x91 h136 _ open_2 hopen_2 e104 hG ok) rfl rfl ?_
      rintro _ w ⟨rfl, ok⟩
      refine ⟨_, rfl, fun a E => ?_⟩
      refine wpList_nil ?_
      refine t_norm ?_
      refine k_next (cl1 ⟨m0, _, le_m0, ok, ⟨memAt 0 rfl, memAt 1 rfl, memAt 2 rfl, trivial⟩⟩ ⟨m0, _, le_m0, ok, ⟨memAt 1 rfl, memAt 2 rfl, trivial⟩⟩) fun hT => ?_
      refine k_take 22 E rfl (by kernel_rfl) nP hT (y_not rfl) rfl rfl fun a E => ?_
      refine k_take 23 E rfl (by kernel_rfl) nP hT (y_pickF rfl rfl) rfl rfl fun a E => ?_
      obtain ⟨b137, o138, hp139, yy140⟩ := orowAt sl_46 h13 e106 (P := Tryd.prog) (X := .tmp 16) (I := .tmp 17) (kd := .i64) (ev_of E rfl) (ev_of E rfl)
      refine k_take 24 E rfl (by kernel_rfl) nP hT (yy140 _ _) rfl rfl fun a E => ?_
      refine k_all [25] (by kernel_rfl) rfl (one_c ?_)
      · refine wpOp_of_list (o := _) rfl ?_
        refine l_storeRow (R := pB) E ok 3 rfl h13 e106 hp139 rfl rfl inf_4 rfl rfl rfl ⟨rfl, trivial⟩ pB_mk e112 rfl fun M141 w ok h142 => ?_
        refine wpList_nil ?_
        refine t_norm ?_
        refine k_next (cl2 (by kernel_rfl) ⟨m0, _, le_m0, ok, ⟨memAt 1 rfl, memAt 2 rfl, trivial⟩⟩) fun hT => ?_
        refine k_done (by kernel_rfl) ?_
        exact ⟨rfl, ⟨c1, c3, c5, M6, c8, M9, c11, M141, ok, E.keep [], h2, h4, h7, h10, h142⟩⟩

end Go.Proofs.YtmghnmfefpeelaaDoor
