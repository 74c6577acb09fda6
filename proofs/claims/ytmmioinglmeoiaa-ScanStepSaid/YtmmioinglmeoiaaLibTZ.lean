/- Short names for the steps that walks take most often. -/
import Derived.Test.YtmmioinglmeoiaaLibTH
namespace Go.X
section
variable {P : Program} {Q : Exit → Act → World → Prop}
theorem lv {n : Nat} {L : List (Nat × Value)} {l rest : List Oper} {a : Act} {w : World} {C : World → Prop} {d : Nat} {op : Op} {ty : TypeId} {pos : String} {after : Array Edge} {g : Option (Nat × Bool)} {v : Value}
    (E : Env n a L) (ok : C w) (y : Yields P C L op ty v) (K : ∀ a', Env n a' ((d, v) :: L) → wpList P l.toArray Q rest a' w) (hg : want l L g = some true := by rfl) (hd : Nat.blt d n = true := by rfl) :
    wpList P l.toArray Q (⟨some d, op, ty, pos, after, g⟩ :: rest) a w := l_val E ok y hg hd K
theorem ls {n : Nat} {L : List (Nat × Value)} {l rest : List Oper} {a : Act} {w : World} {d : Nat} {op : Op} {ty : TypeId} {pos : String} {after : Array Edge} {g : Option (Nat × Bool)}
    (E : Env n a L) (K : ∀ a', Env n a' ((d, undef) :: L) → wpList P l.toArray Q rest a' w) (hg : want l L g = some false := by rfl) (hd : Nat.blt d n = true := by rfl) :
    wpList P l.toArray Q (⟨some d, op, ty, pos, after, g⟩ :: rest) a w := l_skip E hg hd K
theorem qv {n : Nat} {L : List (Nat × Value)} {l rest : List Oper} {a : Act} {C : World → Prop} {d : Nat} {op : Op} {ty : TypeId} {pos : String} {after : Array Edge} {g : Option (Nat × Bool)} {v : Value} {Q : Act → Prop}
    (E : Env n a L) (y : Yields P C L op ty v) (K : ∀ a', Env n a' ((d, v) :: L) → wpQuiet P l.toArray C Q rest a') (hg : want l L g = some true := by rfl) (hd : Nat.blt d n = true := by rfl) :
    wpQuiet P l.toArray C Q (⟨some d, op, ty, pos, after, g⟩ :: rest) a := q_val E y hg hd K
theorem qs {n : Nat} {L : List (Nat × Value)} {l rest : List Oper} {a : Act} {C : World → Prop} {d : Nat} {op : Op} {ty : TypeId} {pos : String} {after : Array Edge} {g : Option (Nat × Bool)} {Q : Act → Prop}
    (E : Env n a L) (K : ∀ a', Env n a' ((d, undef) :: L) → wpQuiet P l.toArray C Q rest a') (hg : want l L g = some false := by rfl) (hd : Nat.blt d n = true := by rfl) :
    wpQuiet P l.toArray C Q (⟨some d, op, ty, pos, after, g⟩ :: rest) a := q_skip E hg hd K
theorem wn {ops : Array Oper} {next : Act → World → Prop} {a : Act} {w : World} (h : next a w) : wpList P ops (Exit.then next Q) [] a w := wpList_nil (t_norm h)
theorem sg {id : Nat} {l : List Oper} {y : Code} {a : Act} {w : World} (h : wpList P l.toArray (Exit.then (y.wp P Q) Q) l a w) : (Code.seq (Code.region id l.toArray false) y).wp P Q a w := wp_seq (c_region h)
theorem sj {α : Type} {a b : α} (h : some a = some b) : a = b := Option.some.inj h
theorem kt {n : Nat} {L : List (Nat × Value)} {l : List Oper} {a : Act} {w : World} {lo : List Nat} {C1 C2 : World → Prop} {fuel d : Nat} {hs : List Nat} (i : Nat) {op : Op} {ty : TypeId} {pos : String} {after : Array Edge} {g : Option (Nat × Bool)} {v : Value} {listed : Array Bool} (E : Env n a L) (hi : l[i]? = some ⟨some d, op, ty, pos, after, g⟩)
    (hT : ∀ k, gone l.toArray hs k = false → Cl2 lo C1 C2 k w) (y : Yields P C2 L op ty v)
    (K : ∀ a', Env n a' ((d, v) :: L) → wpAnyK P l.toArray Q (Cl2 lo C1 C2) fuel (listed.setIfInBounds i true) hs a' w) (hb : takeB l listed hs lo i false = true := by kernel_rfl) (hQ : ∀ c a w, ¬ Q (.panic c) a w := by exact nP) (hg : want l L g = some true := by rfl) (hd : Nat.blt d n = true := by rfl) : wpAnyK P l.toArray Q (Cl2 lo C1 C2) (fuel + 1) listed hs a w :=
  k_take i E hi hb hQ hT y hg hd K
end
end Go.X
