/- A store into a part of an element of an owned row. -/
import Derived.Test.YtmmioinglmeoiaaLibLK
namespace Go.X
open Go.RowKit

/-! ### a store into a part of a row's element -/
section
variable {α : Type} {e k : Nat} {R : Rp α} {m : Mem} {v : Value} {xs : List α} {Mx : List (Nat × Obj)}
theorem ORow.setF {p : Int} {x x' : α} {b o f : Nat} {vs : List Value} (h : ORow e k R m v xs Mx) (hi : idx xs p = some x) (hp : RowPtr k v p Mx b o) (hl : f + vs.length ≤ k) (hup : ∀ es, es.length = k → R m es x → R m (wr es f vs) x') :
    ∃ c, Mx = [(b, Obj.cells (List.toArray c) e (0, 0))] ∧ o + f + vs.length ≤ c.length ∧ ORow e k R m v (xs.set p.toNat x') [(b, Obj.cells (wr c (o + f) vs).toArray e (0, 0))] := by
  have h' := h
  have hp' := hp
  have hi' := hi
  unfold idx at hi
  split at hi
  · rename_i h0
    obtain ⟨hlt, _⟩ := List.getElem?_eq_some_iff.1 hi
    obtain ⟨o1, cap1, c1, l1, e1, hv, hM, _, ho⟩ := hp
    rcases h with ⟨rfl, rfl, _⟩ | ⟨b', o', cap, c, rfl, rfl, h3, h4, h5, h6, h7⟩
    · simp at hlt
    · simp only [Value.slice.injEq, Option.some.injEq, Addr.mk.injEq, and_true] at hv
      obtain ⟨⟨rfl, rfl⟩, rfl, rfl⟩ := hv
      have hle : o + k ≤ c.length := by
        have : (p.toNat + 1) * k ≤ cap * k := Nat.mul_le_mul_right _ (by omega)
        rw [Nat.add_mul] at this
        omega
      have hes : ((c.drop o).take k).length = k := by rw [List.length_take, List.length_drop]; omega
      have hR := hup ((c.drop o).take k) hes (by rw [ho]; exact h7 _ _ hi)
      obtain ⟨c2, e2, h8, h9⟩ := ORow.set h' hi' hp' (by rw [wr_length]; exact hes) hR
      have ec : c = c2 := by
        simp only [List.cons.injEq, Prod.mk.injEq, Obj.cells.injEq, and_true, true_and] at e2
        simpa using e2
      subst ec
      refine ⟨c, rfl, by omega, ?_⟩
      have ew : wr c o (wr ((c.drop o).take k) f vs) = wr c (o + f) vs := by
        apply List.ext_getElem?
        intro j
        have g1 := wr_get (wr ((c.drop o).take k) f vs) c o j (by rw [wr_length, hes]; exact hle)
        have g2 := wr_get vs c (o + f) j (by omega)
        rw [wr_length, hes] at g1
        rw [g1, g2]
        by_cases h1 : o ≤ j ∧ j < o + k
        · have g3 := wr_get vs ((c.drop o).take k) f (j - o) (by rw [hes]; exact hl)
          rw [if_pos h1, g3]
          by_cases h2 : o + f ≤ j ∧ j < o + f + vs.length
          · rw [if_pos h2, if_pos ⟨by omega, by omega⟩]; congr 1; omega
          · rw [if_neg h2, if_neg (by omega), List.getElem?_take_of_lt (by omega), List.getElem?_drop]; congr 1; omega
        · rw [if_neg h1, if_neg (by omega)]
      rw [← ew]; exact h9
  · cases hi
variable {P : Program} {Q : Exit → Act → World → Prop} {n : Nat} {L : List (Nat × Value)} {l rest : List Oper} {a : Act} {w u : World} {S : Segs} {ty : TypeId} {pos : String} {after : Array Edge} {g : Option (Nat × Bool)}
theorem l_storeRowF {t : TypeId} {x y : Operand} {b o sz f q : Nat} {sv : Value} {ys : List α} {x0 x' : α} {p : Int} {svs : List Value} (E : Env n a L) (ok : Ok u m S w) (i : Nat) (hS : S[i]? = some Mx) (h : ORow e k R m v xs Mx) (hi : idx xs p = some x0) (hp : RowPtr k v p Mx b o)
    (hx : ev L x = some (.pointer (some ⟨b, q, none⟩))) (hq : q = o + f) (hy : ev L y = some sv) (hinf : ∃ i, P.info? t = some i ∧ i.size = sz) (hsv : sv.cells.toList = svs) (hsz : svs.length = sz) (hk : Nat.ble (f + sz) k = true) (h1 : allOne svs) (hup : ∀ es, es.length = k → R m es x0 → R m (wr es f svs) x') (hset : setI xs p x' = some ys) (hg : want l L g = some true)
    (K : ∀ Mx' w', Ok u m (S.set i Mx') w' → ORow e k R m v ys Mx' → wpList P l.toArray Q rest a w') :
    wpList P l.toArray Q (⟨none, .store t x y, ty, pos, after, g⟩ :: rest) a w := by
  obtain ⟨inf, hi1, hi2⟩ := hinf
  subst hsv; subst hq
  have hk' := Nat.le_of_ble_eq_true hk
  have hsz' : sv.cells.size = sz := by rw [← hsz]; simp
  obtain ⟨c, rfl, hle, hrow⟩ := h.setF hi hp (vs := sv.cells.toList) (f := f) (by rw [hsz]; exact hk') hup
  have hys : ys = xs.set p.toNat x' := by
    unfold setI at hset
    split at hset
    · exact (Option.some.inj hset).symm
    · cases hset
  subst hys
  have key : ∀ T', Ok u m ([(b, Obj.cells c.toArray e (0, 0))] :: T') w → ∃ w', (storeCells ⟨b, o + f, none⟩ sv.cells.toList).run P w = .ok () w' ∧ Ok u m ([(b, Obj.cells (wr c (o + f) sv.cells.toList).toArray e (0, 0))] :: T') w' := by
    intro T' ok'
    have := run_storeCells (P := P) sv.cells.toList (o + f) 0 c w h1.all (by omega) ok'
    simpa using this
  obtain ⟨w', hr, _⟩ := key _ (ok.frs i hS)
  refine l_op0 (w' := w') E hg ?_ (K _ w' (Ok.setSeg i S _ _ w w' hS (fun T' ok' => ?_) ok) hrow)
  · have hs' : (sizeOf t).run P w = .ok sv.cells.size w := by rw [hsz']; simp [sizeOf, typeInfo, hi1, hi2, go_sem]
    simp only [execOp, E.ev hx, E.ev hy, Instr.storeAt, Instr.sureAddr, storeVar, Sem.run_bind, Sem.run_pure, hs', Result.andThen_ok, ne_eq, not_true_eq_false, if_false, hr]
  · obtain ⟨w'', hr', ok''⟩ := key T' ok'
    rw [hr] at hr'; cases hr'; exact ok''
end
end Go.X
