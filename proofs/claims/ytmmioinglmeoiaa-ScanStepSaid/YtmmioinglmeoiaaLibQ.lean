/- Library calls: strings.Index, strconv.Atoi of short numerals. -/
import Derived.Test.YtmmioinglmeoiaaLibZ
import Derived.Shelf.Strings.Search3
import Derived.Shelf.Strconv.Atoi
import Derived.Lib.AtoiErrMem
namespace Go.X
open Go.Shelf Go.RowKit Go.Proofs

def strings_Index (_N : Nat) (s sub : List UInt8) : Option Int := if s.length < 4294967281 then some (Lib.index s sub) else none
def strconv_Atoi (_N : Nat) (s : List UInt8) : Option (Int × Unit) := if s.length ≤ 18 then match Lib.atoi s with | some v => if InR .i64 v then some (v, ()) else none | none => none else none
section
variable {P : Program} {ρ : Ren} {u w : World} {m : Mem} {S : Segs}
theorem index_le (s sub : List UInt8) : Lib.index s sub ≤ s.length := by
  induction s with
  | nil => unfold Lib.index; split <;> simp
  | cons b l ih =>
    unfold Lib.index
    split
    · simp only [List.length_cons]; omega
    · split
      · simp only [List.length_cons]; omega
      · simp only [List.length_cons]; omega
theorem lib_Index (L : Lays.n143 P ρ) {mx : Int} (hm : u.cell? ⟨ρ.g 1, 0, none⟩ = some (.int .i64 mx)) (s sub : List UInt8) {r : Int} (hF : strings_Index 0 s sub = some r) (ok : Ok u m S w) :
    Calls P (ρ.f 143) [.string (bs s), .string (bs sub)].toArray w fun e w' => (e = .returned (.int .i64 r) ∧ Ok u m S w') ∧ InR .i64 r := by
  unfold strings_Index at hF
  split at hF
  case isFalse => cases hF
  rename_i hl
  cases hF
  refine (Calls.scalar ok (Any.strings_Index L (bs s) (bs sub) mx w hl (ok.glob hm)) fun e w' h => ⟨h.1, h.2 ▸ Below.refl _ _⟩).mono fun e w' h => ⟨h, ?_⟩
  have h1 := index_le s sub
  have h2 := Lib.index_ge s sub
  rw [inR_i64]
  omega
theorem lib_Atoi (L : Lays.n172 P ρ) (s : List UInt8) {r : Int × Unit} (hF : strconv_Atoi 0 s = some r) (ok : Ok u m S w) :
    Calls P (ρ.f 172) [.string (bs s)].toArray w fun e w' => (e = .returned (.tuple [.int .i64 r.1, .nilIface].toArray) ∧ Ok u m S w') ∧ InR .i64 r.1 := by
  unfold strconv_Atoi at hF
  split at hF
  case isFalse => cases hF
  rename_i hl
  cases hv : Lib.atoi s with
  | none => rw [hv] at hF; cases hF
  | some v =>
    rw [hv] at hF
    simp only at hF
    split at hF
    case isFalse => cases hF
    rename_i hr
    cases hF
    refine (Calls.scalar ok (Any.strconv_Atoi L (bs s) v hl hv w) fun e w' h => ⟨h.1, ?_⟩).mono fun e w' h => ⟨h, hr⟩
    obtain ⟨t, rfl⟩ := h.2
    exact Lib.bytesWorld_below w _ t
end
end Go.X
