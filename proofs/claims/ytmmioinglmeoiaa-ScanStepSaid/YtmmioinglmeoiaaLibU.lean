/- A string, rune by rune: the iterator is memory that the call owns. -/
import Derived.Test.YtmmioinglmeoiaaLibT
import Derived.Laws.RangeAny
import Derived.Shelf.Strings.IndexAnyAll
namespace Go.X

/-- The rune at a place, and how many bytes it takes. -/
def runeAt (s : List UInt8) (p : Nat) : Int := ((Utf8.decode (bs s) p).1 : Int)
def wideAt (s : List UInt8) (p : Nat) : Nat := (Utf8.decode (bs s) p).2
theorem runeAt_InR (s : List UInt8) (p : Nat) : InR .i32 (runeAt s p) := by
  have := decode_le (bs s) p
  unfold runeAt
  exact ⟨by show (-2147483648 : Int) ≤ _; omega, by show _ ≤ (2147483647 : Int); omega⟩

/-- strings.IndexAny at a set of two or more ASCII bytes. -/
def strings_IndexAny (_N : Nat) (s cs : List UInt8) : Option Int := if 2 ≤ cs.length ∧ cs.length ≤ 1000 ∧ s.length < 4294967281 ∧ cs.all (fun b => decide (b.toNat < 128)) = true then some (Lib.indexAny s cs) else none

section
variable {P : Program} {Q : Exit → Act → World → Prop} {n : Nat} {L : List (Nat × Value)} {l : List Oper} {a : Act} {u w : World} {m : Mem} {S : Segs} {rest : List Oper} {ty : TypeId} {pos : String} {after : Array Edge} {g : Option (Nat × Bool)} {d : Nat}
theorem l_range {t : TypeId} {x : Operand} {s : List UInt8} (E : Env n a L) (ok : Ok u m S w) (ht : P.underlying t = some .string) (hx : ev L x = some (.string (bs s))) (hg : want l L g = some true) (hd : Nat.blt d n = true)
    (K : ∀ b a' w', Env n a' ((d, .pointer (some ⟨b, 0, none⟩)) :: L) → Ok u m ([(b, Obj.stringIter (bs s) 0)] :: S) w' → wpList P l.toArray Q rest a' w') :
    wpList P l.toArray Q (⟨some d, .range t x, ty, pos, after, g⟩ :: rest) a w := by
  refine l_op (v := .pointer (some ⟨w.heap.size, 0, none⟩)) (w' := w.alloc (.stringIter (bs s) 0)) E hg hd ?_ (fun a' E' => K _ _ _ E' (ok.alloc _))
  simp only [execOp, E.ev hx, Instr.range, Sem.run_bind, run_underlying ht, Result.andThen_ok, Sem.run_pure]
  rfl

theorem l_nextT {x : Operand} {s : List UInt8} {p b : Nat} (E : Env n a L) (ok : Ok u m S w) (k : Nat) (hS : S[k]? = some [(b, Obj.stringIter (bs s) p)]) (hx : ev L x = some (.pointer (some ⟨b, 0, none⟩))) (hp : decide (p < s.length) = true) (hg : want l L g = some true) (hd : Nat.blt d n = true)
    (K : ∀ a' w', Env n a' ((d, .tuple [.bool true, .int .i64 (p : Int), .int .i32 (runeAt s p)].toArray) :: L) → Ok u m ([(b, Obj.stringIter (bs s) (p + wideAt s p))] :: S.eraseIdx k) w' → wpList P l.toArray Q rest a' w') :
    wpList P l.toArray Q (⟨some d, .next x true, ty, pos, after, g⟩ :: rest) a w := by
  have ok1 := ok.frs k hS
  have hb : w.heap[b]? = some (Obj.stringIter (bs s) p) := (ok1.own (b, Obj.stringIter (bs s) p) (by simp)).1
  have hlt : b < w.heap.size := (Array.getElem?_eq_some_iff.1 hb).1
  have hp' : p < (bs s).size := of_decide_eq_true hp
  refine l_op (v := .tuple [.bool true, .int .i64 (p : Int), .int .i32 (runeAt s p)].toArray) (w' := { w with heap := w.heap.setIfInBounds b (.stringIter (bs s) (p + wideAt s p)) }) E hg hd ?_ (fun a' E' => K a' _ E' ?_)
  · simp only [execOp, E.ev hx, Instr.next, getObj, setObj, Sem.run_bind, Sem.run, hb, Result.andThen, hp', if_true]
    simp [goInt, runeAt, wideAt]
  · refine ok1.setObj rfl rfl rfl ?_ fun j hj => ?_
    · simp [hlt]
    · simp [Ne.symm hj]

theorem l_nextF {x : Operand} {s : List UInt8} {p b : Nat} (E : Env n a L) (ok : Ok u m S w) (k : Nat) (hS : S[k]? = some [(b, Obj.stringIter (bs s) p)]) (hx : ev L x = some (.pointer (some ⟨b, 0, none⟩))) (hp : decide (p < s.length) = false) (hg : want l L g = some true) (hd : Nat.blt d n = true)
    (K : ∀ a', Env n a' ((d, .tuple [.bool false].toArray) :: L) → wpList P l.toArray Q rest a' w) :
    wpList P l.toArray Q (⟨some d, .next x true, ty, pos, after, g⟩ :: rest) a w := by
  have ok1 := ok.frs k hS
  have hb : w.heap[b]? = some (Obj.stringIter (bs s) p) := (ok1.own (b, Obj.stringIter (bs s) p) (by simp)).1
  have hp' : ¬ p < (bs s).size := of_decide_eq_false hp
  refine l_op (v := .tuple [.bool false].toArray) (w' := w) E hg hd ?_ K
  simp only [execOp, E.ev hx, Instr.next, getObj, Sem.run_bind, Sem.run, hb, Result.andThen, hp', if_false]
  rfl
end
end Go.X
