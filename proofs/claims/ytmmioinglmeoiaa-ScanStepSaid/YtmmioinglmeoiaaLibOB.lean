/- Slices whose bytes are within the reach. -/
import Derived.Test.YtmmioinglmeoiaaLibO
namespace Go.X
open Go.ChangeShapes Go.RowKit

section
variable {P : Program} {t : TypeId}
theorem s_sliceB {α : Type} {e : TypeId} {n : Nat} {R : Rp α} {Q : α → Prop} (B : Nat) (hB : B ≤ P.bytesOf e) (hB0 : 0 < B) (ht : P.underlying t = some (.slice e)) (hc : P.cellsOf e = n) (hn : 0 < n) (he : OpnS P e R Q) : OpnS P t (pL n R) (fun xs => xs.length * B ≤ reachBytes ∧ ∀ y ∈ xs, Q y) := fun {H enc W base spare held fuel cs x} h hz => by
  obtain ⟨xs, hp, _, hq⟩ := s_slice ht hc hn (Nat.lt_of_lt_of_le hB0 hB) he h hz
  refine ⟨xs, hp, ?_, hq⟩
  obtain ⟨a0, cap0, hcs, _⟩ := hp
  rcases Go.Deep.open_slice ht h with ⟨rfl, _⟩ | ⟨a, len, cap, m, fu, D, Pl, rfl, _, hl, hm', hm2, rfl, hel⟩
  · have := (List.cons.inj hcs).1
    simp only [Value.slice.injEq] at this
    rw [← this.2.1, Nat.zero_mul]; exact Nat.zero_le _
  · have h0 := (List.cons.inj hcs).1
    simp only [Value.slice.injEq] at h0
    rw [← h0.2.1]
    have hlm : len ≤ m := by rw [hm2]; split <;> omega
    have h1 := hz (((List.range len).map D).length + ((List.range (m - len)).map fun j => D (len + j)).length |> (· * P.bytesOf e)) (by simp [DataW.weights, ht])
    simp only [List.length_map, List.length_range] at h1
    have h2 : len * B ≤ (len + (m - len)) * P.bytesOf e := Nat.mul_le_mul (by omega) hB
    omega
end
end Go.X
