/- The slice of a whole array that lies in a box of the call's: the box is read only from then on. -/
import Derived.Test.YtmmioinglmeoiaaLibM
namespace Go.X
open Go.RowKit
section
variable {α : Type} {P : Program} {C : World → Prop} {L : List (Nat × Value)} {ty t e : TypeId} {n k b : Nat} {R : Rp α} {m m' : Mem}
theorem y_slA {X : Operand} (ht : P.underlying t = some (.array n e)) (he : ∃ i, P.info? e = some i ∧ i.size = k) (hx : ev L X = some (.pointer (some ⟨b, 0, none⟩))) :
    Yields P C L (.slice t X none none none) ty (.slice (some ⟨b, 0, none⟩) n n) := by
  intro ρ w dst pos after g E ok
  obtain ⟨i, hi, hs⟩ := he
  have hsz : (sizeOf e).run P w = .ok k w := by simp [sizeOf, typeInfo, hi, hs, go_sem]
  have b1 : (Instr.sliceBounds false n n none none none).run P w = .ok (0, n, n) w := by
    unfold Instr.sliceBounds
    simp [go_sem]
  simp only [execOp, Instr.sliceAt, E hx, Sem.run_bind, run_underlying ht, Result.andThen_ok, Instr.sureAddr, Option.map_none, b1, hsz, Sem.run_pure]
  simp [Addr.add]
theorem pL_froz {vs : List Value} {cs : List Value} {xs : List α} {T : TypeId} (M : Mono R) (hl : Lits k R m vs xs) (hc : catc vs = cs) (hle : m.le m') (hf : ∀ p ∈ [(b, Obj.cells cs.toArray T (0, 0))], m' p.1 = some p.2) (hlen : xs.length = n) (hsm : Nat.ble n 1000000 = true) :
    pL k R m' [.slice (some ⟨b, 0, none⟩) n n] xs := by
  have hsm' := Nat.le_of_ble_eq_true hsm
  subst hlen; subst hc
  refine ⟨_, _, rfl, Nat.le_refl _, by unfold maxLen; omega, by unfold LIMS; omega, fun _ => ⟨b, 0, rfl, fun i x hi => ?_⟩⟩
  have hb := hf _ (List.mem_singleton.2 rfl)
  have hk : i * k + k ≤ (catc vs).length := by
    rw [hl.clen]
    have := (List.getElem?_eq_some_iff.1 hi).1
    calc i * k + k = (i + 1) * k := by rw [Nat.add_mul]; omega
      _ ≤ xs.length * k := Nat.mul_le_mul_right _ this
  refine ⟨((catc vs).drop (i * k)).take k, by rw [List.length_take, List.length_drop]; omega, fun j v hj => ?_, M.up hle (hl.get i x hi)⟩
  have hjk : j < k := by
    have := (List.getElem?_eq_some_iff.1 hj).1
    rw [List.length_take] at this; omega
  rw [List.getElem?_take_of_lt hjk, List.getElem?_drop] at hj
  show m'.cell ⟨b, 0 + i * k + j, none⟩ = some v
  unfold Mem.cell
  simp only at hb
  rw [show (⟨b, 0 + i * k + j, none⟩ : Addr).block = b from rfl, hb]
  simpa using hj
end
end Go.X
