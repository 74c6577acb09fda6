/- Inside a round of a loop over a function: the steps of our logic once more. -/
import Derived.Test.YtnmiodonophfbaaDoorLibW
import Derived.RangeFuncWrites
import Derived.RangeFuncFrom
import Derived.RangeFuncCalls
import Derived.TacticsIn
import Derived.RangeFuncNested
import Derived.RangeFuncLeaves
namespace Go.X

section
variable {P : Program} {Q : Exit → Act → World → Prop} {n N : Nat} {L : List (Nat × Value)} {l : List Oper} {a : Act} {u w : World} {m : Mem} {S : Segs} {rest : List Oper} {ty : TypeId} {pos : String} {after : Array Edge} {g : Option (Nat × Bool)} {d k : Nat}
/-- The fence of a round. -/
abbrev rf_ (k : Nat) : Fence := Fence.wide.inRound k

theorem r_op {op : Op} {v : Value} {w' : World} (E : Env n a L) (hnd : ∀ c, op ≠ .defer c) (hg : want l L g = some true) (hd : Nat.blt d n = true)
    (hr : (execOp a.eval ⟨some d, op, ty, pos, after, g⟩).run P w = .ok (.value v) w')
    (K : ∀ a', Env n a' ((d, v) :: L) → wpListIn (rf_ k) N P l.toArray Q rest a' w') : wpListIn (rf_ k) N P l.toArray Q (⟨some d, op, ty, pos, after, g⟩ :: rest) a w := by
  refine wpListIn_step fun K' hK' => ?_
  rw [E.want (o := ⟨some d, op, ty, pos, after, g⟩) hg, if_pos rfl]
  refine ⟨fun _ _ => trivial, ?_⟩
  rw [Oper.semAt_eq _ _ _ hnd, hr]
  exact hK' _ _ (K _ (E.put d v hd))
theorem r_op0 {op : Op} {w' : World} (E : Env n a L) (hnd : ∀ c, op ≠ .defer c) (hg : want l L g = some true)
    (hr : (execOp a.eval ⟨none, op, ty, pos, after, g⟩).run P w = .ok .skip w')
    (K : wpListIn (rf_ k) N P l.toArray Q rest a w') : wpListIn (rf_ k) N P l.toArray Q (⟨none, op, ty, pos, after, g⟩ :: rest) a w := by
  refine wpListIn_step fun K' hK' => ?_
  rw [E.want (o := ⟨none, op, ty, pos, after, g⟩) hg, if_pos rfl]
  refine ⟨fun _ _ => trivial, ?_⟩
  rw [Oper.semAt_eq _ _ _ hnd, hr]
  exact hK' _ _ K
theorem r_val {C : World → Prop} {op : Op} {v : Value} (E : Env n a L) (ok : C w) (y : Yields P C L op ty v) (hnd : ∀ c, op ≠ .defer c) (hg : want l L g = some true) (hd : Nat.blt d n = true)
    (K : ∀ a', Env n a' ((d, v) :: L) → wpListIn (rf_ k) N P l.toArray Q rest a' w) : wpListIn (rf_ k) N P l.toArray Q (⟨some d, op, ty, pos, after, g⟩ :: rest) a w :=
  r_op E hnd hg hd (y _ w _ _ _ _ (fun h => E.ev h) ok) K
theorem r_storeB {t : TypeId} {x y : Operand} {b o sz : Nat} {c vs : List Value} {T : TypeId} {v : Value} (E : Env n a L) (ok : Ok u m S w) (j : Nat) (hS : S[j]? = some [(b, .cells c.toArray T (0, 0))])
    (hx : ev L x = some (.pointer (some ⟨b, o, none⟩))) (hy : ev L y = some v) (hi : ∃ i, P.info? t = some i ∧ i.size = sz) (hv : v.cells.toList = vs) (hsz : vs.length = sz) (h1 : allOne vs) (hb : Nat.ble (o + vs.length) c.length = true) (hg : want l L g = some true)
    (K : ∀ w', Ok u m (S.set j [(b, .cells (wr c o vs).toArray T (0, 0))]) w' → wpListIn (rf_ k) N P l.toArray Q rest a w') :
    wpListIn (rf_ k) N P l.toArray Q (⟨none, .store t x y, ty, pos, after, g⟩ :: rest) a w := by
  obtain ⟨i, hi, hs⟩ := hi
  subst hv
  have hsz' : v.cells.size = sz := by rw [← hsz]; simp
  have hb' := Nat.le_of_ble_eq_true hb
  -- the world behind the stores
  have key : ∀ T', Ok u m ([(b, .cells c.toArray T (0, 0))] :: T') w → ∃ w', (storeCells ⟨b, o, none⟩ v.cells.toList).run P w = .ok () w' ∧ Ok u m ([(b, .cells (wr c o v.cells.toList).toArray T (0, 0))] :: T') w' := by
    intro T' ok'
    have := run_storeCells (P := P) v.cells.toList o 0 c w h1.all (by omega) ok'
    simpa using this
  have hp : S.flatten.Perm ([(b, Obj.cells c.toArray T (0, 0))] :: S.eraseIdx j).flatten := by
    have := Ok.front_perm j S (List.getElem?_eq_some_iff.1 hS).1
    simpa [Ok.front, hS] using this
  obtain ⟨w', hr, _⟩ := key _ (ok.perm hp)
  refine r_op0 (w' := w') E (by intro c h; cases h) hg ?_ (K w' (Ok.setSeg j S _ _ w w' hS (fun T' ok' => ?_) ok))
  · have hs' : (sizeOf t).run P w = .ok v.cells.size w := by rw [hsz']; simp [sizeOf, typeInfo, hi, hs, go_sem]
    simp only [execOp, E.ev hx, E.ev hy, Instr.storeAt, Instr.sureAddr, storeVar, Sem.run_bind, Sem.run_pure, hs', Result.andThen_ok, ne_eq, not_true_eq_false, if_false, hr]
  · obtain ⟨w'', hr', ok''⟩ := key T' ok'
    rw [hr] at hr'
    cases hr'
    exact ok''
theorem r_call {f : Nat} {xs : List Operand} {ats : Array TypeId} {vs : List Value} {R : Ending → World → Prop} (E : Env n a L) (hf : goB P f = true) (hx : evs L xs = some vs) (hc : Calls P f vs.toArray w R) (hg : want l L g = some true) (hd : Nat.blt d n = true)
    (K : ∀ e w', R e w' → ∃ v, e = .returned v ∧ ∀ a', Env n a' ((d, v) :: L) → wpListIn (rf_ k) N P l.toArray Q rest a' w') :
    wpListIn (rf_ k) N P l.toArray Q (⟨some d, .call { callee := .value (.func f), args := xs.toArray, argTypes := ats }, ty, pos, after, g⟩ :: rest) a w := by
  refine wpListIn_step fun K' hK' => ?_
  rw [E.want (o := ⟨some d, _, ty, pos, after, g⟩) hg, if_pos rfl]
  refine ⟨fun _ _ => trivial, ?_⟩
  rw [Oper.semAt_eq _ _ _ (by intro c h; cases h)]
  have hargs : xs.toArray.map a.eval = vs.toArray := by rw [List.map_toArray, E.evs hx]
  have : execOp a.eval ⟨some d, .call { callee := .value (.func f), args := xs.toArray, argTypes := ats }, ty, pos, after, g⟩ = callFunc f (#[] ++ xs.toArray.map a.eval ++ #[]) := rfl
  rw [this, hargs, run_callFunc hf]
  simp only [Array.empty_append, Array.append_empty]
  rw [Oper.uponIn_enter]
  refine ⟨fun h => (by cases h), CallsIn.mono (CallsIn.inRound k (callsIn_wide.2 hc)) fun e w' hr => ?_⟩
  obtain ⟨v, rfl, h⟩ := K e w' hr
  exact hK' _ _ (h _ (E.put d v hd))
theorem r_region {id : Nat} {l : List Oper} (h : wpListIn (rf_ k) N P l.toArray Q l a w) : (Code.region id l.toArray false).wpIn (rf_ k) N P Q a w := wpIn_region_lit h
theorem r_if {t : Bool} {c : Operand} {x y : Code} (E : Env n a L) (hc : ev L c = some (.bool t)) (h1 : t = true → x.wpIn (rf_ k) N P Q a w) (h2 : t = false → y.wpIn (rf_ k) N P Q a w) : (Code.cond c x y).wpIn (rf_ k) N P Q a w := by
  refine wpIn_cond (t := t) (E.ev hc) ?_
  cases t
  · exact h2 rfl
  · exact h1 rfl
end

/-! ### worlds that turn elsewhere -/
theorem Ok.grown {u w w' : World} {m : Mem} {S : Segs} {row : Option Nat} {B : Nat} (ok : Ok u m S w) (h : w.grownBy w' row) (hr : ∀ r, row = some r → B ≤ r) (hm : ∀ b o, m b = some o → b < B) (hS : ∀ p ∈ S.flatten, p.1 < B) : Ok u m S w' := by
  have key : ∀ b o, b < B → w.heap[b]? = some o → w'.heap[b]? = some o := fun b o hb ho => by
    rw [h.block b (Array.getElem?_eq_some_iff.1 ho).1 (fun e => by have := hr b e.symm; omega)]
    exact ho
  exact ⟨h.os.trans ok.os, h.output.trans ok.out, h.tape.trans ok.tape, fun b o hb => key b o (hm b o hb) (ok.ro b o hb), fun p hp => ⟨key _ _ (hS p hp) (ok.own p hp).1, (ok.own p hp).2⟩, ok.nd, ok.base⟩
theorem Ok.m_lt {u w : World} {m : Mem} {S : Segs} (ok : Ok u m S w) {b : Nat} {o : Obj} (h : m b = some o) : b < w.heap.size := (Array.getElem?_eq_some_iff.1 (ok.ro b o h)).1

section
variable {P : Program} {Q : Exit → Act → World → Prop} {n N : Nat} {L : List (Nat × Value)} {l : List Oper} {a : Act} {u w : World} {m : Mem} {S : Segs} {rest : List Oper} {ty : TypeId} {pos : String} {after : Array Edge} {g : Option (Nat × Bool)} {d k : Nat}
/-- A store of one cell into a box of the call's: the world behind it. -/
theorem store_one {b o : Nat} {c : List Value} {T : TypeId} {v : Value} (ok : Ok u m S w) (j : Nat) (hS : S[j]? = some [(b, .cells c.toArray T (0, 0))]) (h1 : v.oneCell' = true) (hb : o < c.length) :
    (store ⟨b, o, none⟩ v).run P w = .ok () (w.setCell ⟨b, o, none⟩ v) ∧ Ok u m (S.set j [(b, .cells (c.set o v).toArray T (0, 0))]) (w.setCell ⟨b, o, none⟩ v) := by
  have hown : w.heap[b]? = some (.cells c.toArray T (0, 0)) := (ok.own (b, .cells c.toArray T (0, 0)) (by
    have := List.mem_of_getElem? hS
    exact List.mem_flatten.2 ⟨_, this, by simp⟩)).1
  refine ⟨?_, ?_⟩
  · have hcell : w.cell? ⟨b, o, none⟩ = some (c[o]'hb) := by simp [World.cell?, hown, hb]
    have hfz : w.frozen? ⟨b, o, none⟩ = false := by simp [World.frozen?, hown]
    cases v <;> simp [Value.oneCell'] at h1 <;> simp [store, Sem.run, hcell, hfz]
  · refine Ok.setSeg j S _ _ w _ hS (fun T' ok' => ?_) ok
    have := ok'.setCell (off := o) v
    simpa using this
theorem r_store1 {t : TypeId} {x y : Operand} {b o : Nat} {c : List Value} {T : TypeId} {v : Value} (E : Env n a L) (ok : Ok u m S w) (j : Nat) (hS : S[j]? = some [(b, .cells c.toArray T (0, 0))])
    (hx : ev L x = some (.pointer (some ⟨b, o, none⟩))) (hy : ev L y = some v) (hi : ∃ i, P.info? t = some i ∧ i.size = 1) (hv : v.cells = #[v]) (h1 : v.oneCell' = true) (hb : Nat.blt o c.length = true) (hg : want l L g = some true)
    (K : Ok u m (S.set j [(b, .cells (c.set o v).toArray T (0, 0))]) (w.setCell ⟨b, o, none⟩ v) → wpListIn (rf_ k) N P l.toArray Q rest a (w.setCell ⟨b, o, none⟩ v)) :
    wpListIn (rf_ k) N P l.toArray Q (⟨none, .store t x y, ty, pos, after, g⟩ :: rest) a w := by
  obtain ⟨i, hi, hs⟩ := hi
  have hb' : o < c.length := by simpa [Nat.blt, Nat.succ_le_iff] using hb
  obtain ⟨hst, ok1⟩ := store_one (P := P) ok j hS h1 hb'
  refine r_op0 (w' := w.setCell ⟨b, o, none⟩ v) E (by intro c h; cases h) hg ?_ (K ok1)
  have hs' : (sizeOf t).run P w = .ok v.cells.size w := by rw [hv]; simp [sizeOf, typeInfo, hi, hs, go_sem]
  simp only [execOp, E.ev hx, E.ev hy, Instr.storeAt, Instr.sureAddr, storeVar, Sem.run_bind, Sem.run_pure, hs', Result.andThen_ok, ne_eq, not_true_eq_false, if_false]
  rw [hv]
  simp only [storeCells, addr_add, Nat.add_zero, Sem.run_bind, hst, Result.andThen_ok, Sem.run_pure]
end

/-! ### functions that hold a range over a function: in, out -/
theorem enterM {P : Program} {f : FuncId} {fn : Func} {c : Code} {vs : List Value} {w : World} {R : Ending → World → Prop} {n : Nat} (hf : P.funcs[f]? = some fn) (hb : fn.body = some c) (hn : fn.ntmps = n) (hle : Nat.ble vs.length n = true)
    (h : ∀ a, Env n a (num 0 vs) → c.wp P (bodyPostM Fence.wide 3 P fn R) a w) : Calls P f vs.toArray w R := by
  refine callsIn_wide.1 (callsIn_of_wp_marks (F := Fence.wide) (n := 3) hf hb trivial (wpIn_wide.2 (h _ ⟨rfl, ?_, fun i v hi => ?_⟩)))
  · have := Nat.le_of_ble_eq_true hle
    simp [hn]; omega
  · obtain ⟨_, h2⟩ := look_num vs 0 i v hi
    simp only [Nat.sub_zero] at h2
    obtain ⟨hlt, e⟩ := List.getElem?_eq_some_iff.1 h2
    rw [Array.getElem?_append_left (by simpa using hlt)]
    simpa using h2
theorem leaveM {P : Program} {fn : Func} {R : Ending → World → Prop} {a : Act} {w : World} {F : Fence} {n : Nat} (h : bodyPost P fn R .ret a w) : bodyPostM F n P fn R .ret a w := by
  obtain ⟨hd, v, hr, hR⟩ := h
  show LeavesInM F n P fn a.tmps R a.defers .returning w
  rw [hd]
  exact ⟨v, hr, hR⟩
theorem leaveD {P : Program} {fn : Func} {R : Ending → World → Prop} {a : Act} {w : World} {F : Fence} {n D : Nat} (hd : a.defers = []) (hK : w.heap[D]? = some (.deferred (some []))) (h : bodyPost P fn R .ret a (w.putObj D (.deferred none))) :
    bodyPostM F n P fn R .ret { a with defers := { target := .collected D, args := #[] } :: a.defers } w := by
  obtain ⟨_, v, hr, hR⟩ := h
  show LeavesInM F n P fn a.tmps R ({ target := .collected D, args := #[] } :: a.defers) .returning w
  rw [hd]
  exact ⟨by simp, .inl ⟨D, _, rfl, run_takeDeferred hK, v, hr, hR⟩⟩
section
variable {P : Program} {Q : Exit → Act → World → Prop} {n : Nat} {L : List (Nat × Value)} {l : List Oper} {a : Act} {u w : World} {m : Mem} {S : Segs} {rest : List Oper} {ty : TypeId} {pos : String} {after : Array Edge} {g : Option (Nat × Bool)} {d : Nat} {ds : List Deferred}
theorem d_val {C : World → Prop} {op : Op} {v : Value} (E : Env n a L) (ok : C w) (y : Yields P C L op ty v) (hg : want l L g = some true) (hd : Nat.blt d n = true)
    (K : ∀ a', Env n a' ((d, v) :: L) → wpList P l.toArray Q rest { a' with defers := ds } w) : wpList P l.toArray Q (⟨some d, op, ty, pos, after, g⟩ :: rest) { a with defers := ds } w := by
  refine wpList_step fun K' hK' => ?_
  have hw := E.want (o := ⟨some d, op, ty, pos, after, g⟩) hg
  rw [show ({ a with defers := ds } : Act).tmps = a.tmps from rfl, hw, if_pos rfl]
  unfold Oper.wp
  rw [show ({ a with defers := ds } : Act).eval = a.eval from funext fun x => by cases x <;> rfl, y a.eval w _ _ _ _ (fun h => E.ev h) ok]
  exact hK' _ _ (K _ (E.put d v hd))
theorem d_store1 {t : TypeId} {x y : Operand} {b o : Nat} {c : List Value} {T : TypeId} {v : Value} (E : Env n a L) (ok : Ok u m S w) (j : Nat) (hS : S[j]? = some [(b, .cells c.toArray T (0, 0))])
    (hx : ev L x = some (.pointer (some ⟨b, o, none⟩))) (hy : ev L y = some v) (hi : ∃ i, P.info? t = some i ∧ i.size = 1) (hv : v.cells = #[v]) (h1 : v.oneCell' = true) (hb : Nat.blt o c.length = true) (hg : want l L g = some true)
    (K : Ok u m (S.set j [(b, .cells (c.set o v).toArray T (0, 0))]) (w.setCell ⟨b, o, none⟩ v) → wpList P l.toArray Q rest { a with defers := ds } (w.setCell ⟨b, o, none⟩ v)) :
    wpList P l.toArray Q (⟨none, .store t x y, ty, pos, after, g⟩ :: rest) { a with defers := ds } w := by
  obtain ⟨i, hi, hs⟩ := hi
  have hb' : o < c.length := by simpa [Nat.blt, Nat.succ_le_iff] using hb
  obtain ⟨hst, ok1⟩ := store_one (P := P) ok j hS h1 hb'
  refine wpList_step fun K' hK' => ?_
  have hw := E.want (o := ⟨none, .store t x y, ty, pos, after, g⟩) hg
  rw [show ({ a with defers := ds } : Act).tmps = a.tmps from rfl, hw, if_pos rfl]
  unfold Oper.wp
  have hs' : (sizeOf t).run P w = .ok v.cells.size w := by rw [hv]; simp [sizeOf, typeInfo, hi, hs, go_sem]
  have hex : (execOp ({ a with defers := ds } : Act).eval ⟨none, .store t x y, ty, pos, after, g⟩).run P w = .ok .skip (w.setCell ⟨b, o, none⟩ v) := by
    rw [show ({ a with defers := ds } : Act).eval = a.eval from funext fun x => by cases x <;> rfl]
    simp only [execOp, E.ev hx, E.ev hy, Instr.storeAt, Instr.sureAddr, storeVar, Sem.run_bind, Sem.run_pure, hs', Result.andThen_ok, ne_eq, not_true_eq_false, if_false]
    rw [hv]
    simp only [storeCells, addr_add, Nat.add_zero, Sem.run_bind, hst, Result.andThen_ok, Sem.run_pure]
  rw [hex]
  exact hK' _ _ (K ok1)
end
end Go.X
