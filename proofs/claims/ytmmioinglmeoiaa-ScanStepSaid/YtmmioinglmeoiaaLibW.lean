/- More library calls: Count, Replace, Itoa of small numbers. -/
import Derived.Test.YtmmioinglmeoiaaLibU
import Derived.Shelf.Strings.Count
import Derived.Shelf.Strconv.Itoa3
namespace Go.X
open Go.Shelf Go.RowKit Go.Proofs

def strings_Count (_N : Nat) (s sub : List UInt8) : Option Int := if 2 ≤ sub.length ∧ s.length < 4294967281 then some (Lib.count s sub : Int) else none
def strings_Replace (_N : Nat) (s old new : List UInt8) (n : Int) : Option (List UInt8) := if s.length < 4294967281 ∧ 1 ≤ old.length ∧ s.length + (s.length + 1) * new.length ≤ 140737488355328 ∧ (Lib.replace s old new n).length ≤ LIMS then some (Lib.replace s old new n) else none
def strconv_Itoa (_N : Nat) (i : Int) : Option (List UInt8) := if 0 ≤ i ∧ i < 100 ∧ (Lib.decDigits i.toNat).length ≤ LIMS then some (Lib.decDigits i.toNat) else none

section
variable {P : Program} {ρ : Ren} {u w : World} {m : Mem} {S : Segs}
theorem lib_Count (L : Lays.n138 P ρ) {mx : Int} (hm : u.cell? ⟨ρ.g 1, 0, none⟩ = some (.int .i64 mx)) (s sub : List UInt8) {r : Int} (hF : strings_Count 0 s sub = some r) (ok : Ok u m S w) :
    Calls P (ρ.f 138) [.string (bs s), .string (bs sub)].toArray w fun e w' => (e = .returned (.int .i64 r) ∧ Ok u m S w') ∧ InR .i64 r := by
  unfold strings_Count at hF
  split at hF
  case isFalse => cases hF
  rename_i hl
  cases hF
  refine (Calls.scalar ok (Any.strings_Count L (bs s) (bs sub) mx w hl.2 (ok.glob hm) hl.1) fun e w' h => ⟨h.1, h.2 ▸ Below.refl _ _⟩).mono fun e w' h => ⟨h, ?_⟩
  have : Lib.count s sub ≤ s.length + 1 := Lib.count_le s sub
  rw [inR_i64]
  omega
theorem lib_Replace (L : Lays.n154 P ρ) (X : Builder.Extra P ρ) {mx : Int} (hm : u.cell? ⟨ρ.g 1, 0, none⟩ = some (.int .i64 mx)) (s old new : List UInt8) (n : Int) {r : List UInt8} (hF : strings_Replace 0 s old new n = some r) (ok : Ok u m S w) :
    Calls P (ρ.f 154) [.string (bs s), .string (bs old), .string (bs new), .int .i64 n].toArray w fun e w' => (e = .returned (.string (bs r)) ∧ Ok u m S w') ∧ r.length ≤ LIMS := by
  unfold strings_Replace at hF
  split at hF
  case isFalse => cases hF
  rename_i hl
  cases hF
  obtain ⟨h0, h1, h2, hr⟩ := hl
  have hcnt : Lib.countB (bs s) (bs old) ≤ s.length + 1 := Lib.count_le s old
  have hmul : Lib.countB (bs s) (bs old) * new.length ≤ (s.length + 1) * new.length := Nat.mul_le_mul_right _ hcnt
  exact (Calls.scalar ok (Any.strings_Replace L X (bs s) (bs old) (bs new) n mx w h0 (ok.glob hm) h1 (by show s.length + _ * new.length ≤ _; omega)) fun e w' h => h).mono fun e w' h => ⟨h, hr⟩
theorem lib_Itoa (L : Lays.n171 P ρ) (i : Int) {r : List UInt8} (hF : strconv_Itoa 0 i = some r) (ok : Ok u m S w) :
    Calls P (ρ.f 171) [.int .i64 i].toArray w fun e w' => (e = .returned (.string (bs r)) ∧ Ok u m S w') ∧ r.length ≤ LIMS := by
  unfold strconv_Itoa at hF
  split at hF
  case isFalse => cases hF
  rename_i hl
  cases hF
  obtain ⟨k, rfl⟩ := Int.eq_ofNat_of_zero_le hl.1
  exact (Calls.scalar ok (Any.strconv_Itoa_small L k (by omega) w) fun e w' h => ⟨h.1, h.2 ▸ Below.refl _ _⟩).mono fun e w' h => ⟨h, hl.2.2⟩
end

/-- A result that lies in a cell of its own. -/
theorem rv_c1 {P : Program} {u : World} {m : Mem} {S : Segs} {a : Act} {w : World} {n : Nat} {L : List (Nat × Value)} {i b o : Nat} {t : TypeId} {v : Value} (E : Env n a L) (ok : Ok u m S w) (h : look L i = some (.pointer (some ⟨b, o, none⟩)))
    (ht : oneB P t = true) (hc : Holds (Ok u m S) b o [v]) : RV.ok P a w (.c i t v) := by
  refine ⟨_, E.get i _ h, ?_⟩
  have y := y_load (P := P) (C := Ok u m S) (L := []) (ty := 0) (x := .const (.pointer (some ⟨b, o, none⟩))) ht rfl hc
  have := y (fun x => (ev [] x).getD undef) w none "" #[] none (fun {x v} hx => by rw [hx]; rfl) ok
  simp only [execOp, Instr.loadAt, ev, Option.getD_some, Instr.sureAddr, Sem.run_bind, Sem.run_pure, Result.andThen_ok] at this
  revert this
  generalize (loadVar t ⟨b, o, none⟩).run P w = r
  intro this
  cases r with
  | ok v w' => simp only [Result.andThen_ok, Result.ok.injEq, Next.value.injEq] at this; rw [this.1, this.2]
  | halt x w' => cases this
end Go.X
