/- Arrays: their elements' addresses, loads and stores at a known place; array literals. -/
import Derived.Test.YtmmioinglmeoiaaLibH
namespace Go.X

/-- t is an array of n elements of type e, each of k cells. -/
structure ArT (P : Program) (t e n k : Nat) : Prop where
  und : P.underlying t = some (.array n e)
  inf : ∃ i, P.info? e = some i ∧ i.size = k
def arB (P : Program) (t e n k : Nat) : Bool :=
  match P.underlying t with
  | some (.array n' e') => n' == n && e' == e && (match P.info? e with | some i => i.size == k | none => false)
  | _ => false
theorem ArT.of {P : Program} {t e n k : Nat} (h : arB P t e n k = true) : ArT P t e n k := by
  unfold arB at h
  cases hu : P.underlying t with
  | none => rw [hu] at h; cases h
  | some d =>
    rw [hu] at h
    cases d <;> simp only [Bool.false_eq_true] at h
    rename_i n' e'
    cases hi : P.info? e with
    | none => rw [hi] at h; simp at h
    | some i =>
      rw [hi] at h
      simp only [Bool.and_eq_true, beq_iff_eq] at h
      obtain ⟨⟨rfl, rfl⟩, h3⟩ := h
      exact ⟨hu, i, hi, h3⟩

def AllP {α : Type} (q : α → Prop) : List α → Prop
  | [] => True
  | x :: xs => q x ∧ AllP q xs
theorem AllP.mem {α : Type} {q : α → Prop} : ∀ {xs : List α}, AllP q xs → ∀ x ∈ xs, q x
  | [], _, _, h => by cases h
  | y :: xs, h, x, hx => by
    rcases List.mem_cons.1 hx with rfl | hx
    · exact h.1
    · exact h.2.mem x hx
theorem AllP.of {α : Type} {q : α → Prop} : ∀ {xs : List α}, (∀ x ∈ xs, q x) → AllP q xs
  | [], _ => trivial
  | y :: _, h => ⟨h y (List.mem_cons_self ..), AllP.of fun x hx => h x (List.mem_cons_of_mem _ hx)⟩
theorem AllP.idx {α : Type} {q : α → Prop} {xs : List α} {p : Int} {x : α} (h : AllP q xs) (hi : X.idx xs p = some x) : q x := by
  unfold X.idx at hi
  split at hi
  · exact h.mem x (List.mem_of_getElem? hi)
  · cases hi
theorem AllP.setI {α : Type} {q : α → Prop} {xs ys : List α} {p : Int} {x : α} (h : AllP q xs) (hx : q x) (hi : X.setI xs p x = some ys) : AllP q ys := by
  unfold X.setI at hi
  split at hi
  · cases hi
    refine AllP.of fun y hy => ?_
    rcases List.mem_or_eq_of_mem_set hy with h1 | rfl
    · exact h.mem y h1
    · exact hx
  · cases hi
theorem idx_range {α : Type} {xs : List α} {p : Int} {x : α} (hi : idx xs p = some x) : 0 ≤ p ∧ p.toNat < xs.length := by
  unfold idx at hi
  split at hi
  · next h0 => exact ⟨h0, (List.getElem?_eq_some_iff.1 hi).1⟩
  · cases hi
theorem idx_get {α : Type} {xs : List α} {p : Int} {x : α} (hi : idx xs p = some x) : xs[p.toNat]? = some x := by
  unfold idx at hi
  split at hi
  · exact hi
  · cases hi
theorem setI_range {α : Type} {xs ys : List α} {p : Int} {x : α} (hi : setI xs p x = some ys) : 0 ≤ p ∧ p.toNat < xs.length ∧ ys = xs.set p.toNat x := by
  unfold setI at hi
  split at hi
  · next h0 => cases hi; exact ⟨h0.1, h0.2, rfl⟩
  · cases hi

theorem Holds.at {C : World → Prop} {b o : Nat} {cs : List Value} {j : Nat} {v : Value} (h : Holds C b o cs) (hj : cs[j]? = some v) : Holds C b (o + j) [v] := by
  intro w hw i x hi
  cases i with
  | zero => simp at hi; subst hi; exact h w hw j v hj
  | succ i => simp at hi
/-- .. of an array's cells. -/
theorem Holds.idx {α : Type} {C : World → Prop} {b o : Nat} {xs : List α} {f : α → Value} {p : Int} {x : α} (h : Holds C b o (xs.map f)) (hi : X.idx xs p = some x) : Holds C b (o + p.toNat * 1) [f x] := by
  rw [Nat.mul_one]
  exact h.at (by rw [List.getElem?_map, idx_get hi]; rfl)

section
variable {P : Program} {C : World → Prop} {L : List (Nat × Value)} {ty : TypeId}

theorem y_arAt {t e n k b o : Nat} {X I : Operand} {kd : IntKind} {p : Int} (ht : ArT P t e n k) (hX : ev L X = some (.pointer (some ⟨b, o, none⟩))) (hI : ev L I = some (.int kd p)) (h0 : 0 ≤ p) (hn : p.toNat < n) :
    Yields P C L (.indexAddr t X I) ty (.pointer (some ⟨b, o + p.toNat * k, none⟩)) := by
  intro ρ w dst pos after g E ok
  obtain ⟨i, hinf, hsz⟩ := ht.inf
  have hs : (sizeOf e).run P w = .ok k w := by simp [sizeOf, typeInfo, hinf, hsz, go_sem]
  have hb : p < (n : Int) := by omega
  simp only [execOp, E hX, E hI, Instr.indexAt, asIntOf]
  simp [run_underlying ht.und, Instr.sureAddr, h0, hb, hs, addr_add, Result.andThen, go_sem]

/-- An array literal. -/
theorem y_buildA {t e n k : Nat} {ps : List (Nat × Operand)} {vs : List Value} {z cs : List Value} {qs : List (Nat × List Value)} (hz : zeroB P t = some z) (ht : ArT P t e n k) (hx : evs L (ps.map (·.2)) = some vs)
    (hok : flOK (fun i => some (i * k, k)) z.length qs ((ps.map (·.1)).zip vs)) (hcs : fl z qs = cs) : Yields P C L (.build t ps.toArray) ty (.agg cs.toArray) := by
  intro ρ w dst pos after g E ok
  obtain ⟨zv, hzr, hzc⟩ := zeroB_run (P := P) hz
  subst hcs
  obtain ⟨i, hinf, hsz⟩ := ht.inf
  have hs : (sizeOf e).run P w = .ok k w := by simp [sizeOf, typeInfo, hinf, hsz, go_sem]
  have hzs : zv.cells = z.toArray := by rw [← hzc]
  have hvals : ∀ (ps : List (Nat × Operand)) (vs : List Value), evs L (ps.map (·.2)) = some vs → ps.map (fun (x : Nat × Operand) => (x.1, ρ x.2)) = (ps.map (·.1)).zip vs := by
    intro ps
    induction ps with
    | nil => intro vs h; simp [evs] at h; subst h; rfl
    | cons p ps ih =>
      intro vs h
      simp only [List.map_cons, evs] at h
      cases h1 : ev L p.2 with
      | none => rw [h1] at h; cases h
      | some v =>
        cases h2 : evs L (ps.map (·.2)) with
        | none => rw [h1, h2] at h; cases h
        | some r =>
          rw [h1, h2] at h
          simp only [Option.some.injEq] at h
          subst h
          simp [E h1, ih r h2]
  have hf := fill_fl (fun i => some (i * k, k)) qs _ z hok
  rw [← hvals ps vs hx] at hf
  simp only [execOp, Instr.build, Sem.run_bind, hzr, Result.andThen_ok, run_underlying ht.und, hs, hzs, List.map_toArray, hf, Sem.run_pure]
end

theorem stb_le {off n len : Nat} {p : Int} (h : p.toNat < n) (hl : off + n ≤ len) : off + p.toNat * 1 + 1 ≤ len := by omega

theorem wr_at {α : Type} {f : α → Value} {pre post : List Value} {xs ys : List α} {off : Nat} {p : Int} {y : α} (hp : pre.length = off) (hs : setI xs p y = some ys) :
    wr (pre ++ xs.map f ++ post) (off + p.toNat * 1) [f y] = pre ++ ys.map f ++ post := by
  obtain ⟨h0, h1, rfl⟩ := setI_range hs
  subst hp
  rw [Nat.mul_one]
  show ((pre ++ xs.map f) ++ post).set (pre.length + p.toNat) (f y) = _
  rw [List.set_append_left _ _ (by simp; omega), List.set_append_right _ _ (by omega), List.map_set, Nat.add_sub_cancel_left]

section
variable {u : World} {m : Mem} {S : Segs} {P : Program} {Q : Exit → Act → World → Prop} {n : Nat} {L : List (Nat × Value)} {l rest : List Oper} {a : Act} {w : World} {pos : String} {after : Array Edge} {g : Option (Nat × Bool)} {ty : TypeId}
theorem l_storeBI {t : TypeId} {x y : Operand} {b o sz : Nat} {c c' vs : List Value} {T : TypeId} {v : Value} (E : Env n a L) (ok : Ok u m S w) (k : Nat) (hS : S[k]? = some [(b, .cells c.toArray T (0, 0))])
    (hx : ev L x = some (.pointer (some ⟨b, o, none⟩))) (hy : ev L y = some v) (hi : ∃ i, P.info? t = some i ∧ i.size = sz) (hv : v.cells.toList = vs) (hsz : vs.length = sz) (h1 : allOne vs) (hb : o + vs.length ≤ c.length) (hw : wr c o vs = c') (hg : want l L g = some true)
    (K : ∀ w', Ok u m (S.set k [(b, .cells c'.toArray T (0, 0))]) w' → wpList P l.toArray Q rest a w') :
    wpList P l.toArray Q (⟨none, .store t x y, ty, pos, after, g⟩ :: rest) a w := by
  subst hw
  exact l_storeB E ok k hS hx hy hi hv hsz h1 (Nat.ble_eq_true_of_le hb) hg K
end
end Go.X
