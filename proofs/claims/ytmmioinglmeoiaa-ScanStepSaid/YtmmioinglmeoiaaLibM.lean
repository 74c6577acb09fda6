/- strconv.Itoa of any number, by its table. -/
import Derived.Test.YtmmioinglmeoiaaLibQ
import Derived.Shelf.Strconv.Itoa3
import Derived.Lib.AppendIntMem
namespace Go.X
open Go.Shelf Go.RowKit Go.Proofs

def strconv_ItoaT (_N : Nat) (i : Int) : Option (List UInt8) := if (Lib.itoa i).length ≤ LIMS then some (Lib.itoa i) else none
section
variable {P : Program} {ρ : Ren} {u w : World} {m : Mem} {S : Segs}
theorem Ok.tab {name : String} {k : IntKind} {zs : List Int} (ok : Ok u m S w) (h : Lib.TabIs P u name k zs) : Lib.TabIs P w name k zs := by
  unfold Lib.TabIs World.var? at *
  cases hg : P.globalNamed name with
  | none => rw [hg] at h; cases h
  | some g =>
    rw [hg] at h
    simp only [Option.bind_some] at h ⊢
    cases ho : u.heap[g]? with
    | none => rw [ho] at h; cases h
    | some o => rw [ok.ro g o (ok.base g o ho)]; rw [ho] at h; exact h
theorem lib_ItoaT (L : LaysM.n171 P ρ) (ht : Lib.TabIs P u "internal/strconv.uint64pow10" .u64 Lib.pow10Tab) (i : Int) (hi : InR .i64 i) {r : List UInt8} (hF : strconv_ItoaT 0 i = some r) (ok : Ok u m S w) :
    Calls P (ρ.f 171) [.int .i64 i].toArray w fun e w' => (e = .returned (.string (bs r)) ∧ Ok u m S w') ∧ r.length ≤ LIMS := by
  unfold strconv_ItoaT at hF
  split at hF
  case isFalse => cases hF
  rename_i hl
  cases hF
  rw [inR_i64] at hi
  refine (Calls.scalar ok (Any.strconv_Itoa L i hi.1 hi.2 w (ok.tab ht)) fun e w' h => ⟨h.1, ?_⟩).mono fun e w' h => ⟨h, hl⟩
  obtain ⟨k, os, rfl⟩ := h.2
  exact Lib.below_grow _ w (Nat.le_refl _) k os
end
end Go.X
