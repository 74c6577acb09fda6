/- Calls into Go's library, by the shelf's contracts: what each computes as a plain function, and its call in our own logic. -/
import Derived.Test.YtmmioinglmeoiaaLibL
import Derived.Shelf.Strings.Cut
import Derived.Shelf.Strings.Prefix
import Derived.Shelf.Strings.Replace
import Derived.Shelf.Strings.Repeat
import Derived.Shelf.Strings.SlTrimAscii
import Derived.Shelf.Strings.OnBuilder
import Derived.Shelf.Small.Wraps
import Derived.Shelf.Small.Strs
import Derived.Shelf.Slices.Cells
namespace Go.X
open Go.Shelf Go.RowKit Go.Proofs

theorem Ok.below' {u w w' : World} {m : Mem} {S : Segs} (ok : Ok u m S w) (h : Below w.heap.size w w') : Ok u m S w' := by
  refine ⟨h.os.trans ok.os, h.output.trans ok.out, h.tape.trans ok.tape, fun b o hb => ?_, fun p hp => ?_, ok.nd, ok.base⟩
  · have h1 := ok.ro b o hb
    rw [h.block b (Array.getElem?_eq_some_iff.1 h1).1]; exact h1
  · obtain ⟨h1, h2⟩ := ok.own p hp
    refine ⟨?_, h2⟩
    rw [h.block _ (Array.getElem?_eq_some_iff.1 h1).1]; exact h1
theorem Ok.drewN {u w : World} {m : Mem} {S : Segs} (ok : Ok u m S w) (n : Nat) : Ok u m S (w.drewN n) := ⟨ok.os, ok.out, ok.tape, ok.ro, ok.own, ok.nd, ok.base⟩
theorem Ok.glob {u w : World} {m : Mem} {S : Segs} (ok : Ok u m S w) {a : Addr} {v : Value} (h : u.cell? a = some v) : w.cell? a = some v := by
  refine ok.cell ?_
  unfold World.cell? at h
  unfold Mem.cell
  cases hg : u.heap[a.block]? with
  | none => rw [hg] at h; cases h
  | some o => rw [ok.base _ _ hg]; rw [hg] at h; exact h
theorem bs_data (l : List UInt8) : (bs l).data.toList = l := rfl
theorem bs_mk (l : List UInt8) : (⟨l.toArray⟩ : ByteArray) = bs l := rfl

/-! ### what they compute -/
def strings_HasPrefix (_N : Nat) (s p : List UInt8) : Option Bool := some (Lib.hasPrefix s p)
def strings_CutPrefix (_N : Nat) (s p : List UInt8) : Option (List UInt8 × Bool) := some (Lib.trimPrefix s p, Lib.hasPrefix s p)
def strings_Cut (_N : Nat) (s sep : List UInt8) : Option (List UInt8 × List UInt8 × Bool) := if s.length < 4294967281 then some (Lib.cut s sep) else none
def strings_IndexByte (_N : Nat) (s : List UInt8) (c : Int) : Option Int := some (Lib.indexByte s c.toNat.toUInt8)
def strings_Repeat (_N : Nat) (s : List UInt8) (c : Int) : Option (List UInt8) := if 0 ≤ c ∧ c ≤ 9223372036854775807 ∧ s.length * c.toNat ≤ 140737488355328 then some (Lib.repeatL s c.toNat) else none
def strings_ReplaceAll (_N : Nat) (s old new : List UInt8) : Option (List UInt8) := if s.length < 4294967281 ∧ 1 ≤ old.length ∧ s.length + (s.length + 1) * new.length ≤ 140737488355328 ∧ (Lib.replaceAll s old new).length ≤ LIMS then some (Lib.replaceAll s old new) else none
def strings_Trim (_N : Nat) (s cs : List UInt8) : Option (List UInt8) := if cs.length < 4294967281 ∧ cs.all (fun b => decide (b.toNat < 128)) = true then some (Lib.trimS s cs) else none
def strings_TrimLeft (_N : Nat) (s cs : List UInt8) : Option (List UInt8) := if cs.length < 4294967281 ∧ cs.all (fun b => decide (b.toNat < 128)) = true then some (Lib.trimLeftS s cs) else none
def strings_TrimRight (_N : Nat) (s cs : List UInt8) : Option (List UInt8) := if cs.length < 4294967281 ∧ cs.all (fun b => decide (b.toNat < 128)) = true then some (Lib.trimRightS s cs) else none
def strings_Join (_N : Nat) (xs : List (List UInt8)) (sep : List UInt8) : Option (List UInt8) := if xs.length ≤ 140737488355328 ∧ (Lib.join xs sep).length ≤ 140737488355328 then some (Lib.join xs sep) else none

/-! ### their calls -/
section
variable {P : Program} {ρ : Ren} {u w : World} {m : Mem} {S : Segs}

theorem Calls.scalar {f : Nat} {args : Array Value} {v : Value} {R : Ending → World → Prop} (ok : Ok u m S w) (h : Calls P f args w R) (k : ∀ e w', R e w' → e = .returned v ∧ Below w.heap.size w w') : Calls P f args w fun e w' => e = .returned v ∧ Ok u m S w' :=
  h.mono fun e w' r => ⟨(k e w' r).1, ok.below' (k e w' r).2⟩

theorem lib_HasPrefix (L : Lays.n99 P ρ) (s p : List UInt8) {r : Bool} (hF : strings_HasPrefix 0 s p = some r) (ok : Ok u m S w) :
    Calls P (ρ.f 99) [.string (bs s), .string (bs p)].toArray w fun e w' => e = .returned (.bool r) ∧ Ok u m S w' := by
  cases hF
  exact Calls.scalar ok (Any.strings_HasPrefix L (bs s) (bs p) w) fun e w' h => ⟨h.1, h.2 ▸ Below.refl _ _⟩

theorem lib_CutPrefix (L : Lays.n103 P ρ) (s p : List UInt8) {r : List UInt8 × Bool} (hF : strings_CutPrefix 0 s p = some r) (ls : s.length ≤ LIMS) (ok : Ok u m S w) :
    Calls P (ρ.f 103) [.string (bs s), .string (bs p)].toArray w fun e w' => (e = .returned (.tuple [.string (bs r.1), .bool r.2].toArray) ∧ Ok u m S w') ∧ r.1.length ≤ LIMS := by
  cases hF
  refine (Calls.scalar ok (Any.strings_CutPrefix L (bs s) (bs p) w) fun e w' h => ⟨h.1, h.2 ▸ Below.refl _ _⟩).mono fun e w' h => ⟨h, ?_⟩
  unfold Lib.trimPrefix
  split
  · simp only [List.length_drop]; omega
  · exact ls

theorem cut_len (s sep : List UInt8) : (Lib.cut s sep).1.length ≤ s.length ∧ (Lib.cut s sep).2.1.length ≤ s.length := by
  unfold Lib.cut
  split
  · simp only [List.length_take, List.length_drop]; omega
  · simp

theorem lib_Cut (L : Lays.n145 P ρ) {mx : Int} (hm : u.cell? ⟨ρ.g 1, 0, none⟩ = some (.int .i64 mx)) (s sep : List UInt8) {r : List UInt8 × List UInt8 × Bool} (hF : strings_Cut 0 s sep = some r) (ls : s.length ≤ LIMS) (ok : Ok u m S w) :
    Calls P (ρ.f 145) [.string (bs s), .string (bs sep)].toArray w fun e w' => (e = .returned (.tuple [.string (bs r.1), .string (bs r.2.1), .bool r.2.2].toArray) ∧ Ok u m S w') ∧ r.1.length ≤ LIMS ∧ r.2.1.length ≤ LIMS := by
  unfold strings_Cut at hF
  split at hF
  case isFalse => cases hF
  rename_i hl
  cases hF
  have hcl := cut_len s sep
  refine (Calls.scalar ok (Any.strings_Cut L (bs s) (bs sep) mx w hl (ok.glob hm)) fun e w' h => ⟨h.1, ?_⟩).mono fun e w' h => ⟨h, by omega, by omega⟩
  obtain ⟨n, rfl⟩ := h.2
  exact ⟨rfl, rfl, rfl, Nat.le_refl _, fun _ _ => rfl⟩

theorem indexByte_range (s : List UInt8) (c : UInt8) : -1 ≤ Lib.indexByte s c ∧ Lib.indexByte s c < s.length + 1 := by
  induction s with
  | nil => simp [Lib.indexByte]
  | cons b l ih =>
    unfold Lib.indexByte
    split
    · simp; omega
    · split
      · simp; omega
      · simp only [List.length_cons]; omega

theorem lib_IndexByte (L : Lays.n137 P ρ) (s : List UInt8) (c : Int) {r : Int} (hF : strings_IndexByte 0 s c = some r) (ls : s.length ≤ LIMS) (ok : Ok u m S w) :
    Calls P (ρ.f 137) [.string (bs s), .int .u8 c].toArray w fun e w' => (e = .returned (.int .i64 r) ∧ Ok u m S w') ∧ InR .i64 r := by
  cases hF
  refine (Calls.scalar ok (Any.strings_IndexByte L (bs s) c w) fun e w' h => ⟨h.1, h.2 ▸ Below.refl _ _⟩).mono fun e w' h => ⟨h, ?_⟩
  have := indexByte_range s c.toNat.toUInt8
  rw [inR_i64]; unfold LIMS at ls; omega

theorem lib_Repeat (L : Lays.n105 P ρ) (X : Builder.Extra P ρ) (s : List UInt8) (c : Int) {r : List UInt8} (hF : strings_Repeat 0 s c = some r) (ok : Ok u m S w) :
    Calls P (ρ.f 105) [.string (bs s), .int .i64 c].toArray w fun e w' => (e = .returned (.string (bs r)) ∧ Ok u m S w') ∧ r.length ≤ LIMS := by
  unfold strings_Repeat at hF
  split at hF
  case isFalse => cases hF
  rename_i hl
  cases hF
  obtain ⟨h0, h1, h2⟩ := hl
  obtain ⟨k, rfl⟩ := Int.eq_ofNat_of_zero_le h0
  simp only [Int.toNat_natCast] at *
  refine (Calls.scalar ok (Any.strings_Repeat L X (bs s) k w (by omega) h2) fun e w' h => h).mono fun e w' h => ⟨h, ?_⟩
  rw [Lib.repeatL_length, Nat.mul_comm]; unfold LIMS; omega

theorem lib_ReplaceAll (L : Lays.n155 P ρ) (X : Builder.Extra P ρ) {mx : Int} (hm : u.cell? ⟨ρ.g 1, 0, none⟩ = some (.int .i64 mx)) (s old new : List UInt8) {r : List UInt8} (hF : strings_ReplaceAll 0 s old new = some r) (ok : Ok u m S w) :
    Calls P (ρ.f 155) [.string (bs s), .string (bs old), .string (bs new)].toArray w fun e w' => (e = .returned (.string (bs r)) ∧ Ok u m S w') ∧ r.length ≤ LIMS := by
  unfold strings_ReplaceAll at hF
  split at hF
  case isFalse => cases hF
  rename_i hl
  cases hF
  obtain ⟨h0, h1, h2, hr⟩ := hl
  have hcnt : Lib.countB (bs s) (bs old) ≤ s.length + 1 := Lib.count_le s old
  have hmul : Lib.countB (bs s) (bs old) * new.length ≤ (s.length + 1) * new.length := Nat.mul_le_mul_right _ hcnt
  exact (Calls.scalar ok (Any.strings_ReplaceAll L X (bs s) (bs old) (bs new) mx w h0 (ok.glob hm) h1 (by show s.length + _ * new.length ≤ _; omega)) fun e w' h => h).mono fun e w' h => ⟨h, hr⟩

theorem trimS_len (s cs : List UInt8) : (Lib.trimS s cs).length ≤ s.length ∧ (Lib.trimLeftS s cs).length ≤ s.length ∧ (Lib.trimRightS s cs).length ≤ s.length := by
  have h1 : ∀ l : List UInt8, (Lib.trimLeftS l cs).length ≤ l.length := fun l => (List.dropWhile_sublist _).length_le
  have h2 : ∀ l : List UInt8, (Lib.trimRightS l cs).length ≤ l.length := fun l => by
    unfold Lib.trimRightS
    rw [List.length_reverse]
    have := (List.dropWhile_sublist (l := l.reverse) (fun x => cs.contains x)).length_le
    rwa [List.length_reverse] at this
  exact ⟨Nat.le_trans (h1 _) (h2 _), h1 _, h2 _⟩

theorem lib_Trim (L : Lays.n160 P ρ) (h116 : (P.info? (ρ.t 116)).map (fun i => (i.zero, i.size)) = some (some (.agg (Array.replicate 256 (.bool false))), 256)) (s cs : List UInt8) {r : List UInt8} (hF : strings_Trim 0 s cs = some r) (ls : s.length ≤ LIMS) (ok : Ok u m S w) :
    Calls P (ρ.f 160) [.string (bs s), .string (bs cs)].toArray w fun e w' => (e = .returned (.string (bs r)) ∧ Ok u m S w') ∧ r.length ≤ LIMS := by
  unfold strings_Trim at hF
  split at hF
  case isFalse => cases hF
  rename_i hl
  cases hF
  have := (trimS_len s cs).1
  exact (Calls.scalar ok (Any.strings_Trim_laid L h116 (bs s) (bs cs) w ls hl.1 (ascii_of_all hl.2)) fun e w' h => h).mono fun e w' h => ⟨h, by omega⟩
theorem lib_TrimLeft (L : Lays.n161 P ρ) (h116 : (P.info? (ρ.t 116)).map (fun i => (i.zero, i.size)) = some (some (.agg (Array.replicate 256 (.bool false))), 256)) (s cs : List UInt8) {r : List UInt8} (hF : strings_TrimLeft 0 s cs = some r) (ls : s.length ≤ LIMS) (ok : Ok u m S w) :
    Calls P (ρ.f 161) [.string (bs s), .string (bs cs)].toArray w fun e w' => (e = .returned (.string (bs r)) ∧ Ok u m S w') ∧ r.length ≤ LIMS := by
  unfold strings_TrimLeft at hF
  split at hF
  case isFalse => cases hF
  rename_i hl
  cases hF
  have := (trimS_len s cs).2.1
  exact (Calls.scalar ok (Any.strings_TrimLeft_laid L h116 (bs s) (bs cs) w hl.1 (ascii_of_all hl.2)) fun e w' h => h).mono fun e w' h => ⟨h, by omega⟩
theorem lib_TrimRight (L : Lays.n162 P ρ) (h116 : (P.info? (ρ.t 116)).map (fun i => (i.zero, i.size)) = some (some (.agg (Array.replicate 256 (.bool false))), 256)) (s cs : List UInt8) {r : List UInt8} (hF : strings_TrimRight 0 s cs = some r) (ls : s.length ≤ LIMS) (ok : Ok u m S w) :
    Calls P (ρ.f 162) [.string (bs s), .string (bs cs)].toArray w fun e w' => (e = .returned (.string (bs r)) ∧ Ok u m S w') ∧ r.length ≤ LIMS := by
  unfold strings_TrimRight at hF
  split at hF
  case isFalse => cases hF
  rename_i hl
  cases hF
  have := (trimS_len s cs).2.2
  exact (Calls.scalar ok (Any.strings_TrimRight_laid L h116 (bs s) (bs cs) w ls hl.1 (ascii_of_all hl.2)) fun e w' h => h).mono fun e w' h => ⟨h, by omega⟩

theorem lib_Join (L : Lays.n156 P ρ) (X : Builder.Extra P ρ) (v : Value) (xs : List (List UInt8)) (hv : pL 1 pS m [v] xs) (sep : List UInt8) {r : List UInt8} (hF : strings_Join 0 xs sep = some r) (ok : Ok u m S w) :
    Calls P (ρ.f 156) [v, .string (bs sep)].toArray w fun e w' => (e = .returned (.string (bs r)) ∧ Ok u m S w') ∧ r.length ≤ LIMS := by
  unfold strings_Join at hF
  split at hF
  case isFalse => cases hF
  rename_i hl
  cases hF
  have hr : (Lib.join xs sep).length ≤ LIMS := by unfold LIMS; omega
  obtain ⟨a, cap, h1, h2, h3, h4, h5⟩ := hv
  have hv : v = .slice a xs.length cap := (List.cons.inj h1).1
  subst hv
  cases hx : xs with
  | nil =>
    subst hx
    refine (Calls.scalar (v := .string (bs (Lib.join [] sep))) ok (Any.strings_Join_none L X a cap (bs sep) w) fun e w' h => ⟨h.1, h.2 ▸ Below.refl _ _⟩).mono fun e w' h => ⟨h, hr⟩
  | cons x0 rest =>
    rw [← hx]
    obtain ⟨b, o, rfl, h6⟩ := h5 (by rw [hx]; simp)
    have cells : ∀ (j : Nat) y, (xs.map bs)[j]? = some y → w.cell? ⟨b, o + j, none⟩ = some (.string y) := by
      intro j y hj
      rw [List.getElem?_map] at hj
      cases hz : xs[j]? with
      | none => rw [hz] at hj; cases hj
      | some z =>
        rw [hz] at hj
        cases hj
        obtain ⟨es, e1, e2, e3⟩ := h6 j z hz
        obtain ⟨rfl, _⟩ := e3
        have := ok.cell (e2 0 _ rfl)
        simpa using this
    have hbk : b < w.heap.size := by
      have := cells 0 (bs x0) (by rw [hx]; rfl)
      unfold World.cell? at this
      cases hb : w.heap[(⟨b, o + 0, none⟩ : Addr).block]? with
      | none => rw [hb] at this; cases this
      | some ob => exact (Array.getElem?_eq_some_iff.1 hb).1
    have hmap : (xs.map bs).map (·.data.toList) = xs := by rw [List.map_map]; exact List.map_id' xs
    have hlen : (xs.map bs).length = xs.length := by simp
    have c := Any.strings_Join L X b o cap (xs.map bs) (bs sep) w cells hbk (by rw [hlen]; exact hl.1) (by rw [hlen]; exact h2) (by rw [hmap]; exact hl.2)
    rw [hmap, hlen] at c
    exact (Calls.scalar ok c fun e w' h => h).mono fun e w' h => ⟨h, hr⟩
end
end Go.X
