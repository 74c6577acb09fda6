/- Memory operations, calls, and the forms of code. -/
import Derived.Test.YtmmioinglmeoiaaLibB
import Derived.Scope
namespace Go.X

/-! ### facts on types, each a closed Bool -/
def fieldOffB (P : Program) (s f off : Nat) : Bool :=
  match P.underlying s with
  | some (.struct fs) => match fs[f]? with
    | some fd => fd.offset == off && (match P.info? fd.type with | some i => i.size != 0 | none => false)
    | none => false
  | _ => false
def oneB (P : Program) (t : TypeId) : Bool :=
  match P.underlying t with
  | some (.struct _) | some (.array _ _) | none => false
  | some _ => (match P.info? t with | some i => i.size == 1 | none => false)
def aggB (P : Program) (t : TypeId) (n : Nat) : Bool :=
  match P.underlying t with
  | some (.struct _) | some (.array _ _) => (match P.info? t with | some i => i.size == n | none => false)
  | _ => false
/-- t is a slice of e, each element of n cells, z its zero's cells. -/
structure SlT (P : Program) (t e n : Nat) : Prop where
  und : P.underlying t = some (.slice e)
  inf : ∃ i, P.info? e = some i ∧ i.size = n ∧ i.bytes ≤ 32768 ∧ 0 < n
def slB (P : Program) (t e n : Nat) : Bool :=
  match P.underlying t with
  | some (.slice e') => e' == e && (match P.info? e with | some i => i.size == n && decide (i.bytes ≤ 32768) && decide (0 < n) | none => false)
  | _ => false
theorem SlT.of {P : Program} {t e n : Nat} (h : slB P t e n = true) : SlT P t e n := by
  unfold slB at h
  cases hu : P.underlying t with
  | none => rw [hu] at h; cases h
  | some d =>
    rw [hu] at h
    cases d <;> simp only [Bool.false_eq_true] at h
    rename_i e'
    cases hi : P.info? e with
    | none => rw [hi] at h; simp at h
    | some i =>
      rw [hi] at h
      simp only [Bool.and_eq_true, beq_iff_eq, decide_eq_true_eq] at h
      obtain ⟨rfl, ⟨rfl, h1⟩, h2⟩ := h
      exact ⟨hu, i, hi, rfl, h1, h2⟩

theorem run_newObj {P : Program} (o : Obj) (w : World) : (newObj o).run P w = .ok w.heap.size (w.alloc o) := rfl
theorem run_program {P : Program} (w : World) : program.run P w = .ok P w := rfl

theorem addr_add (b o k : Nat) : (⟨b, o, none⟩ : Addr).add k = ⟨b, o + k, none⟩ := by
  unfold Addr.add
  by_cases h : k = 0
  · subst h; simp
  · simp [h]

section
variable {P : Program} {C : World → Prop} {L : List (Nat × Value)} {ty : TypeId}

theorem y_fieldAddr {x : Operand} {b o off f : Nat} {s : TypeId} (h : fieldOffB P s f off = true) (hx : ev L x = some (.pointer (some ⟨b, o, none⟩))) :
    Yields P C L (.fieldAddr s x f) ty (.pointer (some ⟨b, o + off, none⟩)) := by
  intro ρ w dst pos after g E ok
  unfold fieldOffB at h
  cases hu : P.underlying s with
  | none => rw [hu] at h; cases h
  | some d =>
    rw [hu] at h
    cases d <;> simp only [Bool.false_eq_true] at h
    rename_i fs
    cases hf : fs[f]? with
    | none => rw [hf] at h; simp at h
    | some fd =>
      rw [hf] at h
      simp only [Bool.and_eq_true, beq_iff_eq] at h
      obtain ⟨rfl, h2⟩ := h
      cases hi : P.info? fd.type with
      | none => rw [hi] at h2; simp at h2
      | some i =>
        rw [hi] at h2
        simp only [bne_iff_ne] at h2
        have hs : (sizeOf fd.type).run P w = .ok i.size w := by simp [sizeOf, typeInfo, hi, go_sem]
        simp only [execOp, E hx, Instr.fieldAt]
        simp [run_underlying hu, hf, Instr.sureAddr, fieldPlace, hs, h2, addr_add, go_sem]

/-- What a world of this kind holds in n cells from b, o on. -/
def Holds (C : World → Prop) (b o : Nat) (cs : List Value) : Prop := ∀ w, C w → ∀ j v, cs[j]? = some v → w.cell? ⟨b, o + j, none⟩ = some v

theorem Holds.ro {u : World} {m : Mem} {S : Segs} {b o : Nat} {cs : List Value} (h : At m b o cs) : Holds (Ok u m S) b o cs := fun _ ok j v hj => ok.cell (h j v hj)

def segAt (S : Segs) (k : Nat) : List (Nat × Obj) := (S[k]?).getD []
theorem mem_segAt {S : Segs} {k : Nat} {p : Nat × Obj} (h : p ∈ segAt S k) : p ∈ S.flatten := by
  unfold segAt at h
  cases hs : S[k]? with
  | none => rw [hs] at h; cases h
  | some s => rw [hs] at h; exact List.mem_flatten.2 ⟨s, List.mem_of_getElem? hs, h⟩

/-- .. in a block that the call owns. -/
theorem Holds.own {u : World} {m : Mem} {S : Segs} {b o : Nat} {c : List Value} {T : TypeId} {f : Nat × Nat} {cs : List Value} (k : Nat) (h : segAt S k = [(b, .cells c.toArray T f)]) (hc : (c.drop o).take cs.length = cs) : Holds (Ok u m S) b o cs := by
  intro w ok j v hj
  have hm : (b, Obj.cells c.toArray T f) ∈ S.flatten := mem_segAt (k := k) (by rw [h]; simp)
  have hb := (ok.own _ hm).1
  simp only at hb
  have hj' : c[o + j]? = some v := by
    rw [← hc] at hj
    have hlt : j < cs.length := by
      rcases Nat.lt_or_ge j cs.length with h1 | h1
      · exact h1
      · have : (List.take cs.length (List.drop o c))[j]? = none := List.getElem?_eq_none (by simp; omega)
        rw [this] at hj; cases hj
    rw [List.getElem?_take_of_lt hlt, List.getElem?_drop] at hj
    exact hj
  simp [World.cell?, hb, hj']

theorem run_loadCells {w : World} {b o : Nat} : ∀ (cs : List Value) (i : Nat) (acc : Array Value), (∀ j v, cs[j]? = some v → w.cell? ⟨b, o + i + j, none⟩ = some v) → (loadCellsFrom ⟨b, o, none⟩ i cs.length acc).run P w = .ok (acc ++ cs.toArray) w
  | [], i, acc, _ => by simp [loadCellsFrom, go_sem]
  | c :: cs, i, acc, h => by
    have h0 := h 0 c rfl
    have ih := run_loadCells cs (i + 1) (acc.push c) (fun j v hj => by
      have := h (j + 1) v hj
      rwa [show o + i + (j + 1) = o + (i + 1) + j from by omega] at this)
    simp only [List.length_cons, loadCellsFrom, addr_add]
    have hl : (load ⟨b, o + i, none⟩).run P w = .ok c w := by
      have h0' : w.cell? ⟨b, o + i, none⟩ = some c := h0
      simp [load, Sem.run, h0']
    simp only [Sem.run_bind, hl, Result.andThen_ok, ih]
    simp

theorem y_load {x : Operand} {b o : Nat} {t : TypeId} {v : Value} (ht : oneB P t = true) (hx : ev L x = some (.pointer (some ⟨b, o, none⟩))) (hc : Holds C b o [v]) :
    Yields P C L (.load t x) ty v := by
  intro ρ w dst pos after g E ok
  have h0 : w.cell? ⟨b, o, none⟩ = some v := hc w ok 0 v rfl
  unfold oneB at ht
  have hl : (load ⟨b, o, none⟩).run P w = .ok v w := by simp [load, Sem.run, h0]
  cases hu : P.underlying t with
  | none => rw [hu] at ht; simp at ht
  | some d =>
    have ha : (isAgg t).run P w = .ok false w := by
      rw [hu] at ht
      cases d <;> simp at ht <;> simp [isAgg, run_underlying hu, go_sem]
    simp only [execOp, E hx, Instr.loadAt, Instr.sureAddr, loadVar]
    simp [ha, hl, Result.andThen]

theorem y_loadAgg {x : Operand} {b o k : Nat} {t : TypeId} {cs : List Value} (ht : aggB P t k = true) (hx : ev L x = some (.pointer (some ⟨b, o, none⟩))) (hk : cs.length = k) (hc : Holds C b o cs) :
    Yields P C L (.load t x) ty (.agg cs.toArray) := by
  intro ρ w dst pos after g E ok
  unfold aggB at ht
  subst hk
  have hl : (loadCells ⟨b, o, none⟩ cs.length).run P w = .ok cs.toArray w := by
    have := run_loadCells (P := P) cs 0 #[] (fun j v hj => hc w ok j v hj)
    simpa [loadCells] using this
  cases hu : P.underlying t with
  | none => rw [hu] at ht; simp at ht
  | some d =>
    cases hi : P.info? t with
    | none => rw [hu, hi] at ht; cases d <;> simp at ht
    | some i =>
      have hs : (sizeOf t).run P w = .ok i.size w := by simp [sizeOf, typeInfo, hi, go_sem]
      have ha : (isAgg t).run P w = .ok true w ∧ i.size = cs.length := by
        rw [hu, hi] at ht
        cases d <;> simp at ht <;> exact ⟨by simp [isAgg, run_underlying hu, go_sem], ht⟩
      simp only [execOp, E hx, Instr.loadAt, Instr.sureAddr, loadVar]
      simp [ha.1, hs, ha.2, hl, Result.andThen]

end

/-! ### operations that turn the world -/
section
variable {P : Program} {Q : Exit → Act → World → Prop} {n : Nat} {L : List (Nat × Value)} {l rest : List Oper} {a : Act} {w u : World} {m : Mem} {S : Segs} {d : Nat} {ty : TypeId} {pos : String} {after : Array Edge} {g : Option (Nat × Bool)}

theorem l_op {op : Op} {v : Value} {w' : World} (E : Env n a L) (hg : want l L g = some true) (hd : Nat.blt d n = true)
    (hr : (execOp a.eval ⟨some d, op, ty, pos, after, g⟩).run P w = .ok (.value v) w')
    (K : ∀ a', Env n a' ((d, v) :: L) → wpList P l.toArray Q rest a' w') : wpList P l.toArray Q (⟨some d, op, ty, pos, after, g⟩ :: rest) a w := by
  refine wpList_step fun K' hK' => ?_
  rw [E.want (o := ⟨some d, op, ty, pos, after, g⟩) hg, if_pos rfl]
  unfold Oper.wp
  rw [hr]
  exact hK' _ _ (K _ (E.put d v hd))

theorem l_op0 {op : Op} {w' : World} (E : Env n a L) (hg : want l L g = some true)
    (hr : (execOp a.eval ⟨none, op, ty, pos, after, g⟩).run P w = .ok .skip w')
    (K : wpList P l.toArray Q rest a w') : wpList P l.toArray Q (⟨none, op, ty, pos, after, g⟩ :: rest) a w := by
  refine wpList_step fun K' hK' => ?_
  rw [E.want (o := ⟨none, op, ty, pos, after, g⟩) hg, if_pos rfl]
  unfold Oper.wp
  rw [hr]
  exact hK' _ _ K

/-- A value gets a block of its own. -/
theorem l_box {t : TypeId} {x : Operand} {v : Value} (E : Env n a L) (ok : Ok u m S w) (hx : ev L x = some v) (hg : want l L g = some true) (hd : Nat.blt d n = true)
    (K : ∀ b a' w', Env n a' ((d, .pointer (some ⟨b, 0, none⟩)) :: L) → Ok u m ([(b, .cells v.cells t (0, 0))] :: S) w' → wpList P l.toArray Q rest a' w') :
    wpList P l.toArray Q (⟨some d, .box t x, ty, pos, after, g⟩ :: rest) a w := by
  refine l_op (v := .pointer (some ⟨w.heap.size, 0, none⟩)) (w' := w.alloc (.cells v.cells t (0, 0))) E hg hd ?_ (fun a' E' => K _ _ _ E' (ok.alloc _))
  simp only [execOp, E.ev hx, Instr.box, newVar, newRow, Sem.run_bind, Sem.run_pure, run_newObj, Result.andThen_ok]

def zeroB (P : Program) (t : TypeId) : Option (List Value) := match P.info? t with | some i => i.zero.map (·.cells.toList) | none => none

theorem l_alloc {t : TypeId} {cs : List Value} (E : Env n a L) (ok : Ok u m S w) (hz : zeroB P t = some cs) (hg : want l L g = some true) (hd : Nat.blt d n = true)
    (K : ∀ b a' w', Env n a' ((d, .pointer (some ⟨b, 0, none⟩)) :: L) → Ok u m ([(b, .cells cs.toArray t (0, 0))] :: S) w' → wpList P l.toArray Q rest a' w') :
    wpList P l.toArray Q (⟨some d, .alloc t, ty, pos, after, g⟩ :: rest) a w := by
  unfold zeroB at hz
  cases hi : P.info? t with
  | none => rw [hi] at hz; cases hz
  | some i =>
    rw [hi] at hz
    simp only at hz
    cases hv : i.zero with
    | none => rw [hv] at hz; cases hz
    | some v =>
      rw [hv] at hz
      simp only [Option.map_some, Option.some.injEq] at hz
      subst hz
      refine l_op (v := .pointer (some ⟨w.heap.size, 0, none⟩)) (w' := w.alloc (.cells v.cells t (0, 0))) E hg hd ?_ (fun a' E' => K _ _ _ E' (by have := ok.alloc (.cells v.cells t (0, 0)); simpa using this))
      have hzv : (zeroValue t).run P w = .ok v w := by simp [zeroValue, typeInfo, hi, hv, go_sem]
      simp only [execOp, Instr.alloc, newVar, newRow, Sem.run_bind, Sem.run_pure, hzv, run_newObj, Result.andThen_ok]

/-- Some cells of a row written anew. -/
def wr (c : List Value) : Nat → List Value → List Value
  | _, [] => c
  | o, v :: vs => wr (c.set o v) (o + 1) vs

theorem run_storeCells {b : Nat} {T : TypeId} : ∀ (vs : List Value) (o i : Nat) (c : List Value) (w : World), (∀ v ∈ vs, v.oneCell' = true) → o + i + vs.length ≤ c.length → Ok u m ([(b, .cells c.toArray T (0, 0))] :: S) w →
    ∃ w', (storeCells ⟨b, o, none⟩ vs i).run P w = .ok () w' ∧ Ok u m ([(b, .cells (wr c (o + i) vs).toArray T (0, 0))] :: S) w'
  | [], o, i, c, w, _, _, ok => ⟨w, by simp [storeCells, go_sem], ok⟩
  | v :: vs, o, i, c, w, h1, hl, ok => by
    simp only [List.length_cons] at hl
    have ok1 := ok.setCell (off := o + i) v
    simp only [List.setIfInBounds_toArray] at ok1
    obtain ⟨w', h2, h3⟩ := run_storeCells vs o (i + 1) (c.set (o + i) v) (w.setCell ⟨b, o + i, none⟩ v) (fun x hx => h1 x (by simp [hx])) (by simp; omega) ok1
    refine ⟨w', ?_, ?_⟩
    · have hlt : o + i < c.length := by omega
      have hcell : w.cell? ⟨b, o + i, none⟩ = some (c[o + i]'hlt) := by simp [World.cell?, ok.ownCell, hlt]
      have hfz : w.frozen? ⟨b, o + i, none⟩ = false := by simp [World.frozen?, ok.ownCell]
      have hst : (store ⟨b, o + i, none⟩ v).run P w = .ok () (w.setCell ⟨b, o + i, none⟩ v) := by
        have hv := h1 v (by simp)
        cases v <;> simp [Value.oneCell'] at hv <;> simp [store, Sem.run, hcell, hfz]
      simp only [storeCells, addr_add, Sem.run_bind, hst, Result.andThen_ok, h2]
    · simpa [wr, Nat.add_assoc] using h3

/-- A store into a block that the call owns. -/
theorem l_store {t : TypeId} {x y : Operand} {b o : Nat} {c : List Value} {T : TypeId} {v : Value} {S' : Segs} {k : Nat} {i : TypeInfo} (E : Env n a L) (ok : Ok u m S w) (hk : Nat.blt k S.length = true) (hS : Ok.front k S = [(b, .cells c.toArray T (0, 0))] :: S')
    (hx : ev L x = some (.pointer (some ⟨b, o, none⟩))) (hy : ev L y = some v) (hi : P.info? t = some i) (hsz : i.size = v.cells.size) (h1 : ∀ z ∈ v.cells.toList, z.oneCell' = true) (hb : o + v.cells.toList.length ≤ c.length) (hg : want l L g = some true)
    (K : ∀ w', Ok u m ([(b, .cells (wr c o v.cells.toList).toArray T (0, 0))] :: S') w' → wpList P l.toArray Q rest a w') :
    wpList P l.toArray Q (⟨none, .store t x y, ty, pos, after, g⟩ :: rest) a w := by
  have ok1 := ok.fr k hk
  rw [hS] at ok1
  obtain ⟨w', h2, h3⟩ := run_storeCells (P := P) v.cells.toList o 0 c w h1 (by omega) ok1
  refine l_op0 (w' := w') E hg ?_ (K w' h3)
  have hs : (sizeOf t).run P w = .ok v.cells.size w := by simp [sizeOf, typeInfo, hi, hsz, go_sem]
  simp only [execOp, E.ev hx, E.ev hy, Instr.storeAt, Instr.sureAddr, storeVar, Sem.run_bind, Sem.run_pure, hs, Result.andThen_ok, ne_eq, not_true_eq_false, if_false, h2]

/-! ### calls -/
def goB (P : Program) (f : Nat) : Bool := match P.funcs[f]? with | some fn => !(fn.name == "runtime.NumGoroutine") && fn.body.isSome | none => false

theorem run_callFunc {f : Nat} (h : goB P f = true) (args : Array Value) (w : World) : (callFunc f args).run P w = .ok (.enter f args) w := by
  unfold goB at h
  cases hf : P.funcs[f]? with
  | none => rw [hf] at h; cases h
  | some fn =>
    rw [hf] at h
    simp only [Bool.and_eq_true, Bool.not_eq_true'] at h
    obtain ⟨h1, h2⟩ := h
    have h3 : fn.body.isNone = false := by cases hb : fn.body <;> simp [hb] at h2 ⊢
    unfold callFunc
    simp only [Sem.run_bind, run_program, Result.andThen_ok, hf, h1, h3, Bool.false_eq_true, if_false, Sem.run_pure]

theorem l_call {f : Nat} {xs : List Operand} {ats : Array TypeId} {vs : List Value} {R : Ending → World → Prop} (E : Env n a L) (hf : goB P f = true) (hx : evs L xs = some vs) (hc : Calls P f vs.toArray w R) (hg : want l L g = some true) (hd : Nat.blt d n = true)
    (K : ∀ e w', R e w' → ∃ v, e = .returned v ∧ ∀ a', Env n a' ((d, v) :: L) → wpList P l.toArray Q rest a' w') :
    wpList P l.toArray Q (⟨some d, .call { callee := .value (.func f), args := xs.toArray, argTypes := ats }, ty, pos, after, g⟩ :: rest) a w := by
  refine wpList_step fun K' hK' => ?_
  rw [E.want (o := ⟨some d, _, ty, pos, after, g⟩) hg, if_pos rfl]
  unfold Oper.wp
  have hargs : xs.toArray.map a.eval = vs.toArray := by rw [List.map_toArray, E.evs hx]
  have : execOp a.eval ⟨some d, .call { callee := .value (.func f), args := xs.toArray, argTypes := ats }, ty, pos, after, g⟩ = callFunc f (#[] ++ xs.toArray.map a.eval ++ #[]) := rfl
  rw [this, hargs, run_callFunc hf]
  simp only [Array.empty_append, Array.append_empty, Oper.upon]
  refine hc.mono fun e w' hr => ?_
  obtain ⟨v, rfl, h⟩ := K e w' hr
  exact hK' _ _ (h _ (E.put d v hd))

/-- A call in a region that draws: what the callee hands back hangs on the data alone, and the kind of world stays. -/
theorem q_call {f : Nat} {xs : List Operand} {ats : Array TypeId} {vs : List Value} {v : Value} {Q : Act → Prop} (E : Env n a L) (hf : goB P f = true) (hx : evs L xs = some vs) (hc : ∀ w, Ok u m S w → Calls P f vs.toArray w fun e w' => e = .returned v ∧ Ok u m S w') (hg : want l L g = some true) (hd : Nat.blt d n = true)
    (K : ∀ a', Env n a' ((d, v) :: L) → wpQuiet P l.toArray (Ok u m S) Q rest a') :
    wpQuiet P l.toArray (Ok u m S) Q (⟨some d, .call { callee := .value (.func f), args := xs.toArray, argTypes := ats }, ty, pos, after, g⟩ :: rest) a := by
  refine wpQuiet_step fun K' hK' => ?_
  rw [E.want (o := ⟨some d, _, ty, pos, after, g⟩) hg, if_pos rfl]
  refine ⟨v, fun w hw => ?_, hK' _ (K _ (E.put d v hd))⟩
  have hargs : xs.toArray.map a.eval = vs.toArray := by rw [List.map_toArray, E.evs hx]
  have : execOp a.eval ⟨some d, .call { callee := .value (.func f), args := xs.toArray, argTypes := ats }, ty, pos, after, g⟩ = callFunc f (#[] ++ xs.toArray.map a.eval ++ #[]) := rfl
  unfold Oper.quietAt
  rw [this, hargs, run_callFunc hf]
  simp only [Array.empty_append, Array.append_empty, Oper.quietUpon]
  exact ⟨trivial, hc w hw⟩
theorem l_callv {X : Operand} {f : Nat} {xs : List Operand} {ats : Array TypeId} {vs : List Value} {R : Ending → World → Prop} (E : Env n a L) (hX : ev L X = some (.func (.func f) #[] #[])) (hf : goB P f = true) (hx : evs L xs = some vs) (hc : Calls P f vs.toArray w R) (hg : want l L g = some true) (hd : Nat.blt d n = true)
    (K : ∀ e w', R e w' → ∃ v, e = .returned v ∧ ∀ a', Env n a' ((d, v) :: L) → wpList P l.toArray Q rest a' w') :
    wpList P l.toArray Q (⟨some d, .call { callee := .value X, args := xs.toArray, argTypes := ats }, ty, pos, after, g⟩ :: rest) a w := by
  refine wpList_step fun K' hK' => ?_
  rw [E.want (o := ⟨some d, _, ty, pos, after, g⟩) hg, if_pos rfl]
  unfold Oper.wp
  have hargs : xs.toArray.map a.eval = vs.toArray := by rw [List.map_toArray, E.evs hx]
  have : execOp a.eval ⟨some d, .call { callee := .value X, args := xs.toArray, argTypes := ats }, ty, pos, after, g⟩ = callFunc f (#[] ++ xs.toArray.map a.eval ++ #[]) := by simp only [execOp, resolve, E.ev hX]; rfl
  rw [this, hargs, run_callFunc hf]
  simp only [Array.empty_append, Array.append_empty, Oper.upon]
  refine hc.mono fun e w' hr => ?_
  obtain ⟨v, rfl, h⟩ := K e w' hr
  exact hK' _ _ (h _ (E.put d v hd))
theorem q_callv {X : Operand} {f : Nat} {xs : List Operand} {ats : Array TypeId} {vs : List Value} {v : Value} {Q : Act → Prop} (E : Env n a L) (hX : ev L X = some (.func (.func f) #[] #[])) (hf : goB P f = true) (hx : evs L xs = some vs) (hc : ∀ w, Ok u m S w → Calls P f vs.toArray w fun e w' => e = .returned v ∧ Ok u m S w') (hg : want l L g = some true) (hd : Nat.blt d n = true)
    (K : ∀ a', Env n a' ((d, v) :: L) → wpQuiet P l.toArray (Ok u m S) Q rest a') :
    wpQuiet P l.toArray (Ok u m S) Q (⟨some d, .call { callee := .value X, args := xs.toArray, argTypes := ats }, ty, pos, after, g⟩ :: rest) a := by
  refine wpQuiet_step fun K' hK' => ?_
  rw [E.want (o := ⟨some d, _, ty, pos, after, g⟩) hg, if_pos rfl]
  refine ⟨v, fun w hw => ?_, hK' _ (K _ (E.put d v hd))⟩
  have hargs : xs.toArray.map a.eval = vs.toArray := by rw [List.map_toArray, E.evs hx]
  have : execOp a.eval ⟨some d, .call { callee := .value X, args := xs.toArray, argTypes := ats }, ty, pos, after, g⟩ = callFunc f (#[] ++ xs.toArray.map a.eval ++ #[]) := by simp only [execOp, resolve, E.ev hX]; rfl
  unfold Oper.quietAt
  rw [this, hargs, run_callFunc hf]
  simp only [Array.empty_append, Array.append_empty, Oper.quietUpon]
  exact ⟨trivial, hc w hw⟩
end

/-! ### the forms of code -/
section
variable {P : Program} {Q : Exit → Act → World → Prop} {n : Nat} {L : List (Nat × Value)} {a : Act} {w u : World} {m : Mem} {S : Segs}

theorem c_if {t : Bool} {c : Operand} {x y : Code} (E : Env n a L) (hc : ev L c = some (.bool t)) (h1 : t = true → x.wp P Q a w) (h2 : t = false → y.wp P Q a w) : (Code.cond c x y).wp P Q a w := by
  refine wp_cond (t := t) (E.ev hc) ?_
  cases t
  · exact h2 rfl
  · exact h1 rfl

theorem c_region {id : Nat} {l : List Oper} (h : wpList P l.toArray Q l a w) : (Code.region id l.toArray false).wp P Q a w := wp_region_lit h

theorem c_draw {id : Nat} {l : List Oper} (hm : P.follows .mixedOrders = true) (hB : Region.lexB .any l.toArray = true) (ok : Ok u m S w) (h : wpQuiet P l.toArray (Ok u m S) (fun a' => ∀ w', Ok u m S w' → Q .normal a' w') l a) :
    (Code.region id l.toArray true).wp P Q a w :=
  wp_region_quiet hm hB (ok.draw _) (by simpa using h)

theorem t_norm {next : Act → World → Prop} (h : next a w) : Exit.then next Q .normal a w := h
theorem t_exit {next : Act → World → Prop} {i : Nat} (h : Q (.exit i) a w) : Exit.then next Q (.exit i) a w := h
theorem t_ret {next : Act → World → Prop} (h : Q .ret a w) : Exit.then next Q .ret a w := h
theorem b_norm {i : Nat} (h : Q .normal a w) : Exit.inBlock i Q .normal a w := h
theorem s_norm (h : Q .normal a w) : Exit.noGoto Q .normal a w := h
theorem s_ret (h : Q .ret a w) : Exit.noGoto Q .ret a w := h
theorem s_exit {i : Nat} (h : Q (.exit i) a w) : Exit.noGoto Q (.exit i) a w := h
theorem b_ret {i : Nat} (h : Q .ret a w) : Exit.inBlock i Q .ret a w := h
theorem b_hit {i : Nat} (h : Q .normal a w) : Exit.inBlock i Q (.exit i) a w := by simp [Exit.inBlock, h]
theorem b_miss {i j : Nat} (hne : Nat.beq j i = false) (h : Q (.exit j) a w) : Exit.inBlock i Q (.exit j) a w := by
  have : j ≠ i := fun e => by rw [e, Nat.beq_refl] at hne; cases hne
  simp [Exit.inBlock, this, h]

/-- A loop as the repetition of a function. -/
def iter {σ β : Type} (body : σ → Option (Sum σ β)) : Nat → σ → Option β
  | 0, _ => none
  | k + 1, s => match body s with
    | none => none
    | some (.inl s') => iter body k s'
    | some (.inr b) => some b

def Step {σ β : Type} (I : σ → Act → World → Prop) (O : β → Exit → Act → World → Prop) : Sum σ β → Exit → Act → World → Prop
  | .inl s', e, a, w => e = .normal ∧ I s' a w
  | .inr b, e, a, w => e ≠ .normal ∧ O b e a w

theorem c_loop {σ β : Type} (body : σ → Option (Sum σ β)) (I : σ → Act → World → Prop) (O : β → Exit → Act → World → Prop) {c : Code} {b : β}
    (round : ∀ s a w r, I s a w → body s = some r → c.wp P (Step I O r) a w)
    (out : ∀ e a w, e ≠ .normal → O b e a w → Q e a w) :
    ∀ (k : Nat) (s : σ) (a : Act) (w : World), iter body k s = some b → I s a w → (Code.loop c).wp P Q a w := by
  intro k s a w hF h0
  refine wp_loop_rounds k ?_
  induction k generalizing s a w with
  | zero => cases hF
  | succ k ih =>
    simp only [iter] at hF
    cases hb : body s with
    | none => rw [hb] at hF; cases hF
    | some r =>
      rw [hb] at hF
      refine wp_mono (round s a w r h0 hb) fun e a' w' h => ?_
      cases r with
      | inl s' =>
        obtain ⟨rfl, hI⟩ := h
        exact ih s' a' w' hF hI
      | inr b' =>
        simp only [Option.some.injEq] at hF
        subst hF
        obtain ⟨hne, hO⟩ := h
        have := out e a' w' hne hO
        cases e <;> first | exact absurd rfl hne | exact this

/-- What a function hands back: its results' slots. -/
inductive RV where
  | t (i : Nat) (v : Value)
  | c (i : Nat) (ty : TypeId) (v : Value)

def RV.var : RV → ResultVar
  | .t i _ => .tmp i
  | .c i ty _ => .cell i ty
def RV.val : RV → Value
  | .t _ v => v
  | .c _ _ v => v
def RV.ok (P : Program) (a : Act) (w : World) : RV → Prop
  | .t i v => a.tmps[i]? = some v
  | .c i ty v => ∃ ad, a.tmps[i]? = some (.pointer (some ad)) ∧ (loadVar ty ad).run P w = .ok v w

def rvF (tmps : Array Value) : ResultVar → Sem Value
  | .tmp t => pure (tmps.getD t undef)
  | .cell a t => do loadVar t (← asAddr (tmps.getD a undef))

theorem rvF_run {r : RV} (h : r.ok P a w) : (rvF a.tmps r.var).run P w = .ok r.val w := by
  cases r with
  | t i v =>
    have h1 : a.tmps.getD i undef = v := by simp only [RV.ok] at h; simp [h]
    simp only [RV.var, RV.val, rvF, Sem.run_pure, h1]
  | c i ty v =>
    obtain ⟨ad, h1, h2⟩ := h
    have h3 : a.tmps.getD i undef = .pointer (some ad) := by simp [h1]
    simp only [RV.var, RV.val, rvF, h3, asAddr, Sem.run_bind, Sem.run_pure, Result.andThen_ok, h2]

theorem run_rvs : ∀ (rs : List RV), (∀ r ∈ rs, r.ok P a w) → ((rs.map RV.var).mapM (rvF a.tmps)).run P w = .ok (rs.map RV.val) w
  | [], _ => by simp only [List.map_nil, List.mapM_nil, Sem.run_pure]
  | r :: rs, h => by
    have ih := run_rvs rs (fun x hx => h x (by simp [hx]))
    simp only [List.map_cons, List.mapM_cons, Sem.run_bind, Sem.run_pure, rvF_run (h r (by simp)), ih, Result.andThen_ok]

def retV : List Value → Value
  | [v] => v
  | vs => .tuple vs.toArray

theorem c_ret {fn : Func} {R : Ending → World → Prop} (rs : List RV) (E : Env n a L) (hr : fn.results = (rs.map RV.var).toArray) (h : ∀ r ∈ rs, r.ok P a w) (hR : R (.returned (retV (rs.map RV.val))) w) : bodyPost P fn R .ret a w := by
  refine ⟨E.d, _, ?_, hR⟩
  have e : results fn a.tmps = (do let vs ← fn.results.mapM (rvF a.tmps); pure (if h : vs.size = 1 then vs[0] else .tuple vs)) := rfl
  rw [e, hr, List.mapM_toArray]
  simp only [Sem.run_bind, Sem.run_map, run_rvs rs h, Result.andThen_ok, Sem.run_pure]
  congr 1
  generalize rs.map RV.val = vs
  match vs with
  | [] => rfl
  | [v] => rfl
  | v :: v' :: vs => simp [retV]
end
end Go.X

/-! ### small words for the printed walks -/
namespace Go.X
instance (k : IntKind) (x : Int) : Decidable (InR k x) := inferInstanceAs (Decidable (_ ∧ _))

theorem cond_t {α : Type} {t : Bool} {A B : Option α} {r : α} (h : t = true) (hF : (bif t then A else B) = some r) : A = some r := by subst h; exact hF
theorem cond_f {α : Type} {t : Bool} {A B : Option α} {r : α} (h : t = false) (hF : (bif t then A else B) = some r) : B = some r := by subst h; exact hF
theorem bsplit {p : Prop} (t : Bool) (h1 : t = true → p) (h2 : t = false → p) : p := by cases t; exact h2 rfl; exact h1 rfl
theorem bnd {α β : Type} {x : Option α} {f : α → Option β} {r : β} (h : x.bind f = some r) : ∃ a, x = some a ∧ f a = some r := Option.bind_eq_some_iff.1 h
theorem Env.upd {n : Nat} {a : Act} {L : List (Nat × Value)} {t b : Bool} (E : Env n a L) (d : Nat) (h : t = b) (hl : look L d = some (.bool t)) : Env n a ((d, .bool b) :: L) :=
  ⟨E.d, E.sz, fun i v hi => by
    simp only [look] at hi
    cases hb : Nat.beq d i with
    | false => rw [hb] at hi; exact E.get i v hi
    | true =>
      rw [hb] at hi
      have := Nat.eq_of_beq_eq_true hb
      subst this
      simp only [cond_true, Option.some.injEq] at hi
      subst hi; subst h
      exact E.get _ _ hl⟩

def num : Nat → List Value → List (Nat × Value)
  | _, [] => []
  | i, v :: vs => (i, v) :: num (i + 1) vs

theorem look_num : ∀ (vs : List Value) (i j : Nat) (v : Value), look (num i vs) j = some v → i ≤ j ∧ vs[j - i]? = some v
  | [], i, j, v, h => by simp [num, look] at h
  | x :: vs, i, j, v, h => by
    simp only [num, look] at h
    cases hb : Nat.beq i j with
    | true =>
      rw [hb] at h
      have := Nat.eq_of_beq_eq_true hb
      subst this
      simpa using h
    | false =>
      rw [hb] at h
      obtain ⟨h1, h2⟩ := look_num vs (i + 1) j v h
      refine ⟨by omega, ?_⟩
      rw [show j - i = (j - (i + 1)) + 1 from by omega]
      simpa using h2

/-- Entering a function. -/
theorem enter {P : Program} {f : FuncId} {fn : Func} {c : Code} {vs : List Value} {w : World} {R : Ending → World → Prop} {n : Nat} (hf : P.funcs[f]? = some fn) (hb : fn.body = some c) (hn : fn.ntmps = n) (hle : Nat.ble vs.length n = true)
    (h : ∀ a, Env n a (num 0 vs) → c.wp P (bodyPost P fn R) a w) : Calls P f vs.toArray w R := by
  refine calls_of_wp hf hb (h _ ⟨rfl, ?_, fun i v hi => ?_⟩)
  · have := Nat.le_of_ble_eq_true hle
    simp [hn]; omega
  · obtain ⟨_, h2⟩ := look_num vs 0 i v hi
    simp only [Nat.sub_zero] at h2
    obtain ⟨hlt, e⟩ := List.getElem?_eq_some_iff.1 h2
    rw [Array.getElem?_append_left (by simpa using hlt)]
    simpa using h2

theorem Calls.get {P : Program} {f : FuncId} {args : Array Value} {w : World} {R : Ending → World → Prop} (h : Calls P f args w R) : ∃ e w', R e w' := by
  obtain ⟨e, w', _, hr, _⟩ := h []
  exact ⟨e, w', hr⟩

section
variable {P : Program} {C : World → Prop} {L : List (Nat × Value)} {ty : TypeId}
theorem y_lenL {α : Type} {k : Nat} {R : Rp α} {v : Value} {xs : List α} {t e : TypeId} {X : Operand} {m' : Mem} (ht : SlT P t e k) (h : pL k R m' [v] xs) (hX : ev L X = some v) :
    Yields P C L (.call { callee := .builtin .len, args := #[X], argTypes := #[t] }) ty (.int .i64 xs.length) := by
  obtain ⟨⟨a, cap, rfl⟩, _⟩ := pL_inv h
  exact y_len ht.und hX

/-- An index into a slice that reads as a list. -/
theorem idxAt {α : Type} {k : Nat} {R : Rp α} {v : Value} {xs : List α} {kd : IntKind} {p : Int} {x : α} {t e : TypeId} {m' : Mem} (ht : SlT P t e k) (h : pL k R m' [v] xs) (hi : idx xs p = some x)
    {X I : Operand} (hX : ev L X = some v) (hI : ev L I = some (.int kd p)) :
    ∃ b o es, es.length = k ∧ R m' es x ∧ At m' b o es ∧ ∀ C ty, Yields P C L (.indexAddr t X I) ty (.pointer (some ⟨b, o, none⟩)) := by
  obtain ⟨a, cap, h1, h2, h3, _, h4⟩ := h
  have hv : v = .slice a xs.length cap := (List.cons.inj h1).1
  subst hv
  unfold idx at hi
  split at hi
  · rename_i h0
    obtain ⟨hlt, _⟩ := List.getElem?_eq_some_iff.1 hi
    obtain ⟨b, o, rfl, h5⟩ := h4 (by omega)
    obtain ⟨es, e1, e2, e3⟩ := h5 _ _ hi
    refine ⟨b, o + p.toNat * k, es, e1, e3, e2, ?_⟩
    intro C ty ρ w dst pos after g E ok
    obtain ⟨i, hinf, hsz, _, _⟩ := ht.inf
    have hs : (sizeOf e).run P w = .ok k w := by simp [sizeOf, typeInfo, hinf, hsz, go_sem]
    have hb : p < (xs.length : Int) := by omega
    simp only [execOp, E hX, E hI, Instr.indexAt, asIntOf]
    simp [run_underlying ht.und, h0, hb, hs, addr_add, Result.andThen, go_sem]
  · cases hi

theorem pL_cell {m : Mem} {α : Type} {k : Nat} {R : Rp α} {es : List Value} {xs : List α} (h : pL k R m es xs) : ∃ v, es = [v] ∧ pL k R m [v] xs := by
  obtain ⟨a, cap, rfl, h'⟩ := h
  exact ⟨_, rfl, a, cap, rfl, h'⟩
end

theorem c_mono {P : Program} {c : Code} {Q Q' : Exit → Act → World → Prop} {a : Act} {w : World} (h : c.wp P Q' a w) (k : ∀ e a w, Q' e a w → Q e a w) : c.wp P Q a w := wp_mono h k
end Go.X
