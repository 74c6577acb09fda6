/- As XLibO, for arrays. -/
import Derived.Test.YtmmioinglmeoiaaLibO
import Derived.OpenShut
namespace Go.X
open Go.ChangeShapes Go.RowKit
section
variable {P : Program} {t : TypeId}
theorem s_array {m : Nat} {e : TypeId} (ht : P.underlying t = some (.array m e)) {H : Type} {enc : TypeId × Value → H} {W : World} {base : Nat} {spare : Nat → Bool} {held : Bool} {fuel : Nat} {cs : List Value} {x : DataW H × List MemPlace}
    (h : DataW.trod enc P W base spare held fuel t cs = some x) (hz : ∀ n ∈ x.1.weights P t, n ≤ reachBytes) :
    cs.length = P.cellsOf t ∧ ∀ {α : Type} {R : Rp α} {Q : α → Prop} (i : Nat) (n : Nat), i < m → P.cellsOf e = n → OpnS P e R Q → ∃ a, R (hm W) ((cs.drop (i * n)).take n) a ∧ Q a := by
  obtain ⟨xs, n, _, hx, hl, hlen, hf⟩ := DataW.trod_array ht h
  refine ⟨hl, fun {α R Q} i n hi hn ho => ?_⟩
  have hi' : i < xs.length := by rw [hlen]; exact hi
  have := hf i hi
  rw [List.getElem?_eq_getElem hi', hn] at this
  refine ho this fun k hk => hz k ?_
  subst hx
  simp only [DataW.weights, ht]
  exact weightsAll_mem (List.mem_map.2 ⟨xs[i], List.getElem_mem hi', rfl⟩) k hk
theorem okWide_array {w : World} {r : Reach} {base : Nat} {v : Value} {n : Nat} {e : TypeId} (ht : P.underlying t = some (.array n e)) (h : Value.okWide P w r base t v) : ∃ cs, v = .agg cs ∧ cs.size = P.cellsOf t := by
  simp only [Value.okWide, ht] at h
  obtain ⟨cs, h1, h2, _⟩ := h
  exact ⟨cs, h1, h2⟩
end
end Go.X
