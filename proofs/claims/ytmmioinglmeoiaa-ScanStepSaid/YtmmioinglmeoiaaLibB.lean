/- What values read as (in the ghost view), and what each plain operation yields. -/
import Derived.Test.YtmmioinglmeoiaaLibA
namespace Go.X

/-! ### integers in range -/
def InR (k : IntKind) (x : Int) : Prop := k.min ≤ x ∧ x ≤ k.max

theorem i64_min : IntKind.i64.min = -9223372036854775808 := by decide
theorem i64_max : IntKind.i64.max = 9223372036854775807 := by decide
theorem u8_min : IntKind.u8.min = 0 := by decide
theorem u8_max : IntKind.u8.max = 255 := by decide
theorem i32_min : IntKind.i32.min = -2147483648 := by decide
theorem i32_max : IntKind.i32.max = 2147483647 := by decide

theorem inR_i64 {x : Int} : InR .i64 x ↔ -9223372036854775808 ≤ x ∧ x ≤ 9223372036854775807 := by unfold InR; rw [i64_min, i64_max]
theorem inR_u8 {x : Int} : InR .u8 x ↔ 0 ≤ x ∧ x ≤ 255 := by unfold InR; rw [u8_min, u8_max]
theorem inR_i32 {x : Int} : InR .i32 x ↔ -2147483648 ≤ x ∧ x ≤ 2147483647 := by unfold InR; rw [i32_min, i32_max]

theorem InR.wrap (k : IntKind) (x : Int) : InR k (k.wrap x) := by
  cases k <;> simp only [InR, IntKind.wrap, IntKind.min, IntKind.max, IntKind.bits, IntKind.signed] <;> simp <;> (try split) <;> omega

theorem wrap_of {k : IntKind} {x : Int} (h : InR k x) : k.wrap x = x := by
  cases k <;> simp only [InR, IntKind.wrap, IntKind.min, IntKind.max, IntKind.bits, IntKind.signed] at * <;> simp at * <;> (try split) <;> omega

theorem InR.inc {k : IntKind} {x y : Int} (hx : InR k x) (hy : InR k y) (h : decide (x < y) = true) : InR k (x + 1) := by
  have := of_decide_eq_true h
  unfold InR at *; omega
theorem InR.dec {k : IntKind} {x y : Int} (hx : InR k x) (hy : InR k y) (h : decide (x > y) = true) : InR k (x - 1) := by
  have := of_decide_eq_true h
  unfold InR at *; omega

/-- The greatest length of a slice that is made here, and of a string. -/
abbrev LIM : Nat := 4294967296
abbrev LIMS : Nat := 9223372036854775807

theorem InR.len {n : Nat} (h : n ≤ LIMS) : InR .i64 (n : Int) := by rw [inR_i64]; unfold LIMS at h; omega
theorem InR.byte (c : UInt8) : InR .u8 (c.toNat : Int) := by rw [inR_u8]; have := c.toNat_lt; omega

/-! ### the functions that the extracted programs use -/
def idx {α : Type} (xs : List α) (i : Int) : Option α := if 0 ≤ i then xs[i.toNat]? else none
def setI {α : Type} (xs : List α) (i : Int) (v : α) : Option (List α) := if 0 ≤ i ∧ i.toNat < xs.length then some (xs.set i.toNat v) else none
def slc {α : Type} (xs : List α) (lo hi : Int) : Option (List α) := if 0 ≤ lo ∧ lo ≤ hi ∧ hi ≤ xs.length then some ((xs.drop lo.toNat).take (hi - lo).toNat) else none
def cat (a b : List UInt8) : Option (List UInt8) := if a.length + b.length ≤ LIMS then some (a ++ b) else none
def app {α : Type} (xs ys : List α) : Option (List α) := if xs.length + ys.length ≤ LIM then some (xs ++ ys) else none
def mk {α : Type} (n : Int) (z : α) : Option (List α) := if 0 ≤ n ∧ n ≤ LIM then some (List.replicate n.toNat z) else none

def bs (l : List UInt8) : ByteArray := ⟨l.toArray⟩
theorem bs_toList (l : List UInt8) : (bs l).toList = l := by
  rw [ByteArray.toList_eq]; rfl
theorem bs_size (l : List UInt8) : (bs l).size = l.length := rfl
theorem bs_of (s : ByteArray) : bs s.data.toList = s := rfl

/-! ### what values read as -/
abbrev Rp (α : Type) := Mem → List Value → α → Prop

def At (m : Mem) (b o : Nat) (cs : List Value) : Prop := ∀ j v, cs[j]? = some v → m.cell ⟨b, o + j, none⟩ = some v

def pI (k : IntKind) : Rp Int := fun _ cs x => cs = [.int k x] ∧ InR k x
def pB : Rp Bool := fun _ cs x => cs = [.bool x]
def pS : Rp (List UInt8) := fun _ cs x => cs = [.string (bs x)] ∧ x.length ≤ LIMS
def pL {α : Type} (n : Nat) (R : Rp α) : Rp (List α) := fun m cs xs =>
  ∃ a cap, cs = [.slice a xs.length cap] ∧ xs.length ≤ cap ∧ cap ≤ maxLen ∧ xs.length ≤ LIMS ∧
    (xs.length ≠ 0 → ∃ b o, a = some ⟨b, o, none⟩ ∧ ∀ i x, xs[i]? = some x → ∃ es, es.length = n ∧ At m b (o + i * n) es ∧ R m es x)

def allOne : List Value → Prop
  | [] => True
  | v :: vs => v.oneCell' = true ∧ allOne vs
theorem allOne.all : ∀ {vs : List Value}, allOne vs → ∀ v ∈ vs, v.oneCell' = true
  | [], _, _, h => by cases h
  | x :: vs, h, v, hv => by
    rcases List.mem_cons.1 hv with rfl | hv
    · exact h.1
    · exact h.2.all v hv

structure Mono {α : Type} (R : Rp α) : Prop where
  up : ∀ {m m' : Mem} {cs : List Value} {x : α}, m.le m' → R m cs x → R m' cs x
  one : ∀ {m : Mem} {cs : List Value} {x : α}, R m cs x → allOne cs

theorem At.up {m m' : Mem} {b o : Nat} {cs : List Value} (h : m.le m') (k : At m b o cs) : At m' b o cs := fun j v hj => h.cell (k j v hj)
theorem mI (k : IntKind) : Mono (pI k) := ⟨fun _ h => h, fun h => by rw [h.1]; exact ⟨rfl, trivial⟩⟩
theorem mB : Mono pB := ⟨fun _ h => h, fun h => by rw [show _ = _ from h]; exact ⟨rfl, trivial⟩⟩
theorem mS : Mono pS := ⟨fun _ h => h, fun h => by rw [h.1]; exact ⟨rfl, trivial⟩⟩
theorem mL {α : Type} {n : Nat} {R : Rp α} (M : Mono R) : Mono (pL n R) := ⟨fun hm h => by
  obtain ⟨a, cap, h1, h2, h3, h3', h4⟩ := h
  refine ⟨a, cap, h1, h2, h3, h3', fun hn => ?_⟩
  obtain ⟨b, o, e, h5⟩ := h4 hn
  refine ⟨b, o, e, fun i x hi => ?_⟩
  obtain ⟨es, e1, e2, e3⟩ := h5 i x hi
  exact ⟨es, e1, e2.up hm, M.up hm e3⟩, fun h => by
  obtain ⟨a, cap, h1, _⟩ := h
  rw [h1]; exact ⟨rfl, trivial⟩⟩

theorem pI_inv {k : IntKind} {m : Mem} {v : Value} {x : Int} (h : pI k m [v] x) : v = .int k x ∧ InR k x := ⟨(List.cons.inj h.1).1, h.2⟩
theorem pB_inv {m : Mem} {v : Value} {x : Bool} (h : pB m [v] x) : v = .bool x := (List.cons.inj h).1
theorem pS_inv {m : Mem} {v : Value} {x : List UInt8} (h : pS m [v] x) : v = .string (bs x) ∧ x.length ≤ LIMS := ⟨(List.cons.inj h.1).1, h.2⟩
theorem pL_inv {α : Type} {n : Nat} {R : Rp α} {m : Mem} {v : Value} {xs : List α} (h : pL n R m [v] xs) : (∃ a cap, v = .slice a xs.length cap) ∧ xs.length ≤ LIMS := by
  obtain ⟨a, cap, h1, _, _, h3, _⟩ := h
  exact ⟨⟨a, cap, (List.cons.inj h1).1⟩, h3⟩
theorem pI_mk {k : IntKind} {m : Mem} {x : Int} (h : InR k x) : pI k m [.int k x] x := ⟨rfl, h⟩
theorem pB_mk {m : Mem} {x : Bool} : pB m [.bool x] x := rfl
theorem pS_mk {m : Mem} {x : List UInt8} (h : x.length ≤ LIMS) : pS m [.string (bs x)] x := ⟨rfl, h⟩

theorem pL_len {α : Type} {n : Nat} {R : Rp α} {m : Mem} {v : Value} {xs : List α} (h : pL n R m [v] xs) : xs.length ≤ LIMS := (pL_inv h).2
theorem pL_InR {α : Type} {n : Nat} {R : Rp α} {m : Mem} {v : Value} {xs : List α} (h : pL n R m [v] xs) : InR .i64 (xs.length : Int) := InR.len (pL_len h)

/-! ### what each plain operation yields -/
section
variable {P : Program} {C : World → Prop} {L : List (Nat × Value)} {ty : TypeId}

theorem y_move {x : Operand} {v : Value} (hx : ev L x = some v) : Yields P C L (.move x) ty v := by
  intro ρ w dst pos after g E ok
  simp [execOp, E hx, go_sem]
theorem y_assign {x : Operand} {v : Value} (hx : ev L x = some v) : Yields P C L (.assign x) ty v := by
  intro ρ w dst pos after g E ok
  simp [execOp, E hx, go_sem]
theorem y_pickT {c x y : Operand} {v : Value} (hc : ev L c = some (.bool true)) (hx : ev L x = some v) : Yields P C L (.pick c x y) ty v := by
  intro ρ w dst pos after g E ok
  simp [execOp, E hc, E hx, asBool, go_sem]
theorem y_pickF {c x y : Operand} {v : Value} (hc : ev L c = some (.bool false)) (hx : ev L y = some v) : Yields P C L (.pick c x y) ty v := by
  intro ρ w dst pos after g E ok
  simp [execOp, E hc, E hx, asBool, go_sem]
theorem y_not {x : Operand} {b : Bool} {t : TypeId} (hx : ev L x = some (.bool b)) : Yields P C L (.unOp .not t x) ty (.bool (!b)) := by
  intro ρ w dst pos after g E ok
  simp [execOp, E hx, Op.unary, go_sem]

section
variable {x y : Operand} {k : IntKind} {p q : Int} {t t' : TypeId} (hx : ev L x = some (.int k p)) (hy : ev L y = some (.int k q))
include hx hy
theorem y_lss : Yields P C L (.binOp .lss t x y t') ty (.bool (decide (p < q))) := by
  intro ρ w dst pos after g E ok
  simp [execOp, E hx, E hy, binOp, eqGuard, Op.intCmp, go_sem]
theorem y_leq : Yields P C L (.binOp .leq t x y t') ty (.bool (decide (p ≤ q))) := by
  intro ρ w dst pos after g E ok
  simp [execOp, E hx, E hy, binOp, eqGuard, Op.intCmp, go_sem]
theorem y_gtr : Yields P C L (.binOp .gtr t x y t') ty (.bool (decide (p > q))) := by
  intro ρ w dst pos after g E ok
  simp [execOp, E hx, E hy, binOp, eqGuard, Op.intCmp, go_sem]
theorem y_geq : Yields P C L (.binOp .geq t x y t') ty (.bool (decide (p ≥ q))) := by
  intro ρ w dst pos after g E ok
  simp [execOp, E hx, E hy, binOp, eqGuard, Op.intCmp, go_sem]
theorem y_eql : Yields P C L (.binOp .eql t x y t') ty (.bool (p == q)) := by
  intro ρ w dst pos after g E ok
  simp [execOp, E hx, E hy, binOp, eqGuard, Op.intCmp, go_sem]
theorem y_neq : Yields P C L (.binOp .neq t x y t') ty (.bool (p != q)) := by
  intro ρ w dst pos after g E ok
  simp [execOp, E hx, E hy, binOp, eqGuard, Op.intCmp, go_sem]
theorem y_addw : Yields P C L (.binOp .add t x y t') ty (.int k (k.wrap (p + q))) := by
  intro ρ w dst pos after g E ok
  simp [execOp, E hx, E hy, binOp, eqGuard, Op.intArith, go_sem]
theorem y_subw : Yields P C L (.binOp .sub t x y t') ty (.int k (k.wrap (p - q))) := by
  intro ρ w dst pos after g E ok
  simp [execOp, E hx, E hy, binOp, eqGuard, Op.intArith, go_sem]
theorem y_mulw : Yields P C L (.binOp .mul t x y t') ty (.int k (k.wrap (p * q))) := by
  intro ρ w dst pos after g E ok
  simp [execOp, E hx, E hy, binOp, eqGuard, Op.intArith, go_sem]
theorem y_add (h : InR k (p + q)) : Yields P C L (.binOp .add t x y t') ty (.int k (p + q)) := by
  have := y_addw (P := P) (C := C) (ty := ty) (t := t) (t' := t') hx hy
  rwa [wrap_of h] at this
theorem y_sub (h : InR k (p - q)) : Yields P C L (.binOp .sub t x y t') ty (.int k (p - q)) := by
  have := y_subw (P := P) (C := C) (ty := ty) (t := t) (t' := t') hx hy
  rwa [wrap_of h] at this
theorem y_quo (hq : q ≠ 0) : Yields P C L (.binOp .quo t x y t') ty (.int k (k.wrap (p.tdiv q))) := by
  intro ρ w dst pos after g E ok
  simp [execOp, E hx, E hy, binOp, eqGuard, Op.intDiv, hq, go_sem]
theorem y_rem (hq : q ≠ 0) : Yields P C L (.binOp .rem t x y t') ty (.int k (p.tmod q)) := by
  intro ρ w dst pos after g E ok
  simp [execOp, E hx, E hy, binOp, eqGuard, Op.intDiv, hq, go_sem]
end

section
variable {x y : Operand} {p q : List UInt8} {t t' : TypeId} (hx : ev L x = some (.string (bs p))) (hy : ev L y = some (.string (bs q)))
include hx hy
theorem y_seql : Yields P C L (.binOp .eql t x y t') ty (.bool (p == q)) := by
  intro ρ w dst pos after g E ok
  simp [execOp, E hx, E hy, binOp, eqGuard, Op.stringOp, bs_toList, go_sem]
theorem y_sneq : Yields P C L (.binOp .neq t x y t') ty (.bool (p != q)) := by
  intro ρ w dst pos after g E ok
  have e : (p != q) = !(p == q) := rfl
  rw [e]
  simp [execOp, E hx, E hy, binOp, eqGuard, Op.stringOp, bs_toList, go_sem]
theorem y_cat {r : List UInt8} (h : cat p q = some r) : Yields P C L (.binOp .add t x y t') ty (.string (bs r)) := by
  intro ρ w dst pos after g E ok
  unfold cat at h
  split at h
  · rename_i hl
    simp only [Option.some.injEq] at h
    subst h
    have e : bs p ++ bs q = bs (p ++ q) := by
      apply ByteArray.ext
      simp [bs]
    have hm : (p.length : Int) + (q.length : Int) ≤ 9223372036854775807 := by unfold LIMS at hl; omega
    simp [execOp, E hx, E hy, binOp, eqGuard, Op.stringOp, bs_size, go_sem, hm, e]
  · cases h
end

theorem y_beql {x y : Operand} {p q : Bool} {t t' : TypeId} (ht : P.underlying t = some .bool) (hx : ev L x = some (.bool p)) (hy : ev L y = some (.bool q)) : Yields P C L (.binOp .eql t x y t') ty (.bool (p == q)) := by
  intro ρ w dst pos after g E ok
  have h1 : (Op.equal t (.bool p) (.bool q)).run P w = .ok (p == q) w := by
    unfold Op.equal Op.maxDepth Op.equalIn
    simp [run_underlying ht, go_sem]
  have h2 : binOp .eql t (.bool p) (.bool q) = (do pure (.bool (← Op.equal t (.bool p) (.bool q)))) := rfl
  simp only [execOp, E hx, E hy, eqGuard, h2]
  simp [h1, Result.andThen]
theorem y_bneq {x y : Operand} {p q : Bool} {t t' : TypeId} (ht : P.underlying t = some .bool) (hx : ev L x = some (.bool p)) (hy : ev L y = some (.bool q)) : Yields P C L (.binOp .neq t x y t') ty (.bool (p != q)) := by
  intro ρ w dst pos after g E ok
  have h1 : (Op.equal t (.bool p) (.bool q)).run P w = .ok (p == q) w := by
    unfold Op.equal Op.maxDepth Op.equalIn
    simp [run_underlying ht, go_sem]
  have h2 : binOp .neq t (.bool p) (.bool q) = (do pure (.bool (!(← Op.equal t (.bool p) (.bool q))))) := rfl
  simp only [execOp, E hx, E hy, eqGuard, h2]
  simp [h1, Result.andThen, bne]

theorem y_len {x : Operand} {ad : Option Addr} {l c : Nat} {t e : TypeId} (ht : P.underlying t = some (.slice e)) (hx : ev L x = some (.slice ad l c)) : Yields P C L (.call { callee := .builtin .len, args := #[x], argTypes := #[t] }) ty (.int .i64 l) := by
  intro ρ w dst pos after g E ok
  simp [E hx, Builtin.len_, goInt, run_underlying ht, go_sem]
theorem y_slen {x : Operand} {s : List UInt8} {t : TypeId} (ht : P.underlying t = some .string) (hx : ev L x = some (.string (bs s))) : Yields P C L (.call { callee := .builtin .len, args := #[x], argTypes := #[t] }) ty (.int .i64 s.length) := by
  intro ρ w dst pos after g E ok
  simp [E hx, Builtin.len_, goInt, bs_size, run_underlying ht, go_sem]
theorem y_index {x i : Operand} {s : List UInt8} {k : IntKind} {p : Int} {c : UInt8} {t : TypeId} (ht : P.underlying t = some .string) (hx : ev L x = some (.string (bs s))) (hi : ev L i = some (.int k p)) (h : idx s p = some c) :
    Yields P C L (.index t x i) ty (.int .u8 c.toNat) := by
  intro ρ w dst pos after g E ok
  unfold idx at h
  split at h
  · rename_i h0
    have hb : (bs s)[p.toNat]? = some c := by
      obtain ⟨hlt, e⟩ := List.getElem?_eq_some_iff.1 h
      have h1 : p.toNat < (bs s).size := hlt
      rw [getElem?_pos (bs s) p.toNat h1]
      exact congrArg some e
    simp [execOp, E hx, E hi, Instr.index, asIntOf, run_underlying ht, h0, hb, go_sem]
  · cases h
theorem y_conv {x : Operand} {k k' : IntKind} {p : Int} {s d : TypeId} {sd : TypeDesc} (hs : P.underlying s = some sd) (hd : P.underlying d = some (.int k')) (hx : ev L x = some (.int k p)) : Yields P C L (.convert s d x) ty (.int k' (k'.wrap p)) := by
  intro ρ w dst pos after g E ok
  simp [execOp, E hx, convert, run_underlying hs, run_underlying hd, Conv.intToInt, go_sem]
theorem y_extract {x : Operand} {i : Nat} {vs : List Value} {v : Value} (hx : ev L x = some (.tuple vs.toArray)) (hi : vs[i]? = some v) : Yields P C L (.extract x i) ty v := by
  intro ρ w dst pos after g E ok
  simp [execOp, E hx, Instr.extract, hi, go_sem]
end
end Go.X
