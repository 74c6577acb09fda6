/- Shifts; the order of strings; a slice of slices whose memory is a box. -/
import Derived.Test.YtmmioinglmeoiaaLibLM
namespace Go.X
open Go.RowKit

def ishl (k : IntKind) (a b : Int) : Option Int := if b < 0 then none else some (k.wrap (a * 2 ^ (min b.toNat k.bits)))
def ishr (k : IntKind) (a b : Int) : Option Int := if b < 0 then none else some (a.fdiv (2 ^ (min b.toNat k.bits)))
theorem ishl_InR {k : IntKind} {a b z : Int} (h : ishl k a b = some z) : InR k z := by
  unfold ishl at h
  split at h
  · cases h
  · cases h; exact InR.wrap _ _
theorem fdiv_range {a c : Int} (hc : 1 ≤ c) : (0 ≤ a → 0 ≤ a.fdiv c ∧ a.fdiv c ≤ a) ∧ (a < 0 → a ≤ a.fdiv c ∧ a.fdiv c < 0) := by
  rw [Int.fdiv_eq_ediv_of_nonneg _ (by omega)]
  constructor
  · intro h
    exact ⟨Int.ediv_nonneg h (by omega), Int.ediv_le_self c h⟩
  · intro h
    refine ⟨?_, Int.ediv_neg_of_neg_of_pos h (by omega)⟩
    rw [Int.le_ediv_iff_mul_le (by omega)]
    have h2 : 0 ≤ (-a) * (c - 1) := Int.mul_nonneg (by omega) (by omega)
    rw [Int.mul_sub, Int.neg_mul, Int.mul_one] at h2
    omega
theorem ishr_InR {k : IntKind} {a b z : Int} (h : ishr k a b = some z) (ha : InR k a) : InR k z := by
  unfold ishr at h
  split at h
  · cases h
  · cases h
    have hc : (1 : Int) ≤ 2 ^ (min b.toNat k.bits) := by
      have : (0 : Int) < 2 ^ (min b.toNat k.bits) := Int.pow_pos (by decide)
      omega
    obtain ⟨h1, h2⟩ := fdiv_range (a := a) hc
    have hk : k.min ≤ 0 ∧ 0 ≤ k.max := by cases k <;> decide
    unfold InR at *
    by_cases h0 : 0 ≤ a
    · have := h1 h0; omega
    · have := h2 (by omega); omega
section
variable {P : Program} {C : World → Prop} {L : List (Nat × Value)} {ty t t' : TypeId} {x y : Operand} {k k' : IntKind} {a b z : Int}
theorem y_shl (hx : ev L x = some (.int k a)) (hy : ev L y = some (.int k' b)) (h : ishl k a b = some z) : Yields P C L (.binOp .shl t x y t') ty (.int k z) := by
  intro ρ w dst pos after g E ok
  unfold ishl at h
  split at h
  · cases h
  · next hb =>
    cases h
    simp [execOp, E hx, E hy, binOp, eqGuard, Op.shift, hb, go_sem]
theorem y_shr (hx : ev L x = some (.int k a)) (hy : ev L y = some (.int k' b)) (h : ishr k a b = some z) : Yields P C L (.binOp .shr t x y t') ty (.int k z) := by
  intro ρ w dst pos after g E ok
  unfold ishr at h
  split at h
  · cases h
  · next hb =>
    cases h
    simp [execOp, E hx, E hy, binOp, eqGuard, Op.shift, hb, go_sem]
def sless (p q : List UInt8) : Bool := Op.bytesLess p q
theorem y_slss {p q : List UInt8} (hx : ev L x = some (.string (bs p))) (hy : ev L y = some (.string (bs q))) : Yields P C L (.binOp .lss t x y t') ty (.bool (sless p q)) := by
  intro ρ w dst pos after g E ok
  simp [execOp, E hx, E hy, binOp, eqGuard, Op.stringOp, bs_toList, sless, go_sem]
end

section
variable {P : Program} {C : World → Prop} {L : List (Nat × Value)} {ty : TypeId}
variable {α : Type} {e k : Nat} {R : Rp α} {m : Mem} {P : Program} {Q : Exit → Act → World → Prop} {n : Nat} {L : List (Nat × Value)} {l rest : List Oper} {a : Act} {w u : World} {S : Segs} {d : Nat} {ty : TypeId} {pos : String} {after : Array Edge} {g : Option (Nat × Bool)}
/-- A slice literal, all of whose elements are written: its memory as a box. -/
theorem l_slitB {t : TypeId} {xo : List Operand} {vs : List Value} {len : Nat} {z : List Value} (E : Env n a L) (ok : Ok u m S w) (ht : SlT P t e k) (hz : zeroB P e = some z) (hx : evs L xo = some vs) (hall : ∀ v ∈ vs, v.cells.toList.length = k) (hlen : vs.length = len) (hsm : Nat.ble (len * k) 16777216 = true) {cs : List Value} (hcs : catc vs = cs)
    (hg : want l L g = some true) (hd : Nat.blt d n = true)
    (K : ∀ b a' w', Env n a' ((d, .slice (some ⟨b, 0, none⟩) len len) :: L) → Ok u m ([(b, Obj.cells cs.toArray e (0, 0))] :: S) w' → wpList P l.toArray Q rest a' w') :
    wpList P l.toArray Q (⟨some d, .buildSlice t len (enum 0 xo).toArray, ty, pos, after, g⟩ :: rest) a w := by
  obtain ⟨i, hinf, hsz, hby, hk⟩ := ht.inf
  obtain ⟨zv, hzr, hzc⟩ := zeroB_run (P := P) hz
  have hsm' := Nat.le_of_ble_eq_true hsm
  have hlk : len ≤ len * k := Nat.le_mul_of_pos_right _ hk
  subst hlen hcs
  refine l_op (v := .slice (some ⟨w.heap.size, 0, none⟩) vs.length vs.length) (w' := w.alloc (.cells (catc vs).toArray e)) E hg hd ?_ (fun a' E' => K _ _ _ E' (ok.alloc _))
  have hsz' : (sizeOf e).run P w = .ok k w := by simp [sizeOf, typeInfo, hinf, hsz, go_sem]
  have hens : ∀ (xo : List Operand) (i : Nat) (vs : List Value), evs L xo = some vs → (enum i xo).map (fun (x : Nat × Operand) => (x.1, a.eval x.2)) = (List.range' i vs.length).zip vs := by
    intro xo
    induction xo with
    | nil => intro i vs h; simp [evs] at h; subst h; rfl
    | cons x xo ih =>
      intro i vs h
      simp only [evs] at h
      cases h1 : ev L x with
      | none => rw [h1] at h; cases h
      | some v =>
        cases h2 : evs L xo with
        | none => rw [h1, h2] at h; cases h
        | some r =>
          rw [h1, h2] at h
          simp only [Option.some.injEq] at h
          subst h
          simp [enum, E.ev h1, ih (i + 1) r h2, List.range'_succ]
  have hbig : ¬ (vs.length * k > 2 ^ 24) := by omega
  have hfill : ∀ c : List Value, c.length = vs.length * k → Instr.fill (fun i => some (i * k, k)) c.toArray ((enum 0 xo).map (fun (x : Nat × Operand) => (x.1, a.eval x.2))) = some (catc vs).toArray := by
    intro c hc
    rw [hens xo 0 vs hx, fill_enum vs 0 c hall (by omega)]
    simp
  have hf2 : ∀ z : Array Value, Instr.fill (fun i => some (i * k, k)) ((Array.range (vs.length * k)).map (z[· % z.size]!)) ((enum 0 xo).map (fun (x : Nat × Operand) => (x.1, a.eval x.2))) = some (catc vs).toArray := by
    intro z
    have := hfill ((List.range (vs.length * k)).map (z[· % z.size]!)) (by simp)
    rw [← this]
    congr 1
    simp [← Array.toList_inj]
  by_cases h0 : vs.length * k = 0
  · have := hf2 #[]
    simp only [execOp, Instr.buildSlice, Sem.run_bind, run_underlying ht.und, Result.andThen_ok, hsz', if_false, h0, if_true, List.map_toArray, Sem.run_pure, show ¬ (0 > 2 ^ 24) from by omega]
    rw [h0] at this
    simp only [this, newRow, Sem.run_bind, run_newObj, Result.andThen_ok, Sem.run_pure]
  · simp only [execOp, Instr.buildSlice, Sem.run_bind, run_underlying ht.und, Result.andThen_ok, hsz', hbig, if_false, h0, List.map_toArray, Sem.run_pure, hzr, hf2, newRow, run_newObj]

end
end Go.X
namespace Go.X
section
variable {P : Program} {C : World → Prop} {L : List (Nat × Value)} {ty t : TypeId} {X I : Operand} {e b : Nat} {kd : IntKind} {p : Int}
theorem y_idxB (ht : SlT P t e 1) (hX : ev L X = some (.slice (some ⟨b, 0, none⟩) 1 1)) (hI : ev L I = some (.int kd p)) (hp : p = 0) : Yields P C L (.indexAddr t X I) ty (.pointer (some ⟨b, 0, none⟩)) := by
  intro ρ w dst pos after g E ok
  subst hp
  obtain ⟨i, hinf, hsz, _, _⟩ := ht.inf
  have hs : (sizeOf e).run P w = .ok 1 w := by simp [sizeOf, typeInfo, hinf, hsz, go_sem]
  simp only [execOp, E hX, E hI, Instr.indexAt, asIntOf]
  simp [run_underlying ht.und, hs, Result.andThen, go_sem]
end
end Go.X
namespace Go.X
section
variable {P : Program} {Q : Exit → Act → World → Prop} {n : Nat} {L : List (Nat × Value)} {l rest : List Oper} {a : Act} {w u : World} {m : Mem} {S : Segs} {d : Nat} {ty : TypeId} {pos : String} {after : Array Edge} {g : Option (Nat × Bool)}
theorem l_boxC {t : TypeId} {x : Operand} {v : Value} {cs : List Value} (E : Env n a L) (ok : Ok u m S w) (hx : ev L x = some v) (hc : v.cells.toList = cs) (hg : want l L g = some true) (hd : Nat.blt d n = true)
    (K : ∀ b a' w', Env n a' ((d, .pointer (some ⟨b, 0, none⟩)) :: L) → Ok u m ([(b, .cells cs.toArray t (0, 0))] :: S) w' → wpList P l.toArray Q rest a' w') :
    wpList P l.toArray Q (⟨some d, .box t x, ty, pos, after, g⟩ :: rest) a w := by
  refine l_box E ok hx hg hd fun b a' w' E' ok' => K b a' w' E' ?_
  have e : cs.toArray = v.cells := by rw [← hc]
  rw [e]
  exact ok'
end
end Go.X
namespace Go.X
theorem catc_one {v : Value} (h : v.cells.toList = [v]) : catc [v] = [v] := by
  show v.cells.toList ++ _ = _
  rw [h]; rfl
end Go.X
