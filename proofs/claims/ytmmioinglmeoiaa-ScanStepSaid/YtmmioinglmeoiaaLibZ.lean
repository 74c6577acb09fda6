/- strings.Builder: its copy check and its String, in our own logic. -/
import Derived.Test.YtmmioinglmeoiaaLibW
import Derived.Test.YtmmioinglmeoiaaLibY
import Derived.Shelf.Strings.Builder1
set_option linter.unusedVariables false
namespace Go.X
open Go.Shelf Go.RowKit Go.Proofs

/-- The first cell of a builder: nothing yet, or its own address. -/
def BAd (b : Nat) (v : Value) : Prop := v = .pointer none ∨ v = .pointer (some ⟨b, 0, none⟩)
theorem BAd.cells {b : Nat} {v : Value} (h : BAd b v) : v.cells.toList = [v] := by rcases h with rfl | rfl <;> rfl
theorem BAd.one {b : Nat} {v : Value} (h : BAd b v) : v.oneCell' = true := by rcases h with rfl | rfl <;> rfl

section
variable {P : Program} {ρ : Ren} {u w : World} {m : Mem} {S : Segs}
theorem bld_copyCheck (L : Lays.n240 P ρ) (X : Builder.X72 P ρ) {b : Nat} {a v : Value} (i : Nat) (hS : S[i]? = some [(b, .cells [a, v].toArray (ρ.t 72) (0, 0))]) (ha : BAd b a) (ok : Ok u m S w) :
    Calls P (ρ.f 240) [.pointer (some ⟨b, 0, none⟩)].toArray w fun e w' => e = .returned (.tuple [].toArray) ∧ Ok u m (S.set i [(b, .cells [.pointer (some ⟨b, 0, none⟩), v].toArray (ρ.t 72) (0, 0))]) w' := by
  have hm : (b, Obj.cells [a, v].toArray (ρ.t 72) (0, 0)) ∈ S.flatten := List.mem_flatten.2 ⟨_, List.mem_of_getElem? hS, by simp⟩
  have hb := (ok.own _ hm).1
  simp only at hb
  rcases ha with rfl | rfl
  · refine (Any.Builder_copyCheck_fresh L X b w (by simp [World.cell?, hb]) (by simp [World.shape?, hb]) (by simp [World.frozen?, hb])).mono ?_
    rintro e w' ⟨rfl, rfl⟩
    refine ⟨rfl, Ok.setSeg i S _ _ w _ hS (fun T' ok' => ?_) ok⟩
    have := ok'.setCell (off := 0) (.pointer (some ⟨b, 0, none⟩))
    simpa using this
  · refine (Any.Builder_copyCheck_used L X b w (by simp [World.cell?, hb])).mono ?_
    rintro e w' ⟨rfl, rfl⟩
    exact ⟨rfl, by rw [set_same hS]; exact ok⟩

theorem run_unsafeString_at (w : World) (pt it ty e : TypeId) (hp : P.underlying pt = some (.pointer e)) (hc : P.cellsOf e = 1) (g o cells : Nat) (hsh : w.shape? g = some (e, cells)) (l : List UInt8) (h0 : l ≠ []) (hn : o + l.length ≤ cells) (h63 : l.length ≤ 9223372036854775807)
    (hcell : ∀ j x, l[j]? = some x → w.cell? ((⟨g, o, none⟩ : Addr).add j) = some (.int .u8 x.toNat)) :
    (Builtin.unsafeString_ #[pt, it] ty #[.pointer (some ⟨g, o, none⟩), .int .i64 l.length]).run P w = .ok (.string ⟨l.toArray⟩) (w.freeze ⟨g, o, none⟩ l.length) := by
  have hl : l.length ≠ 0 := by simpa using h0
  have hlb := Lib.run_loadBytes (P := P) w l ⟨g, o, none⟩ .empty hcell
  have hlies : liesAt P P.depth e (cells / P.cellsOf e) o e l.length = true := by
    have hd : P.depth = (2 * (P.types.size + Made.depth) + 1) + 1 := rfl
    rw [hd]
    simp only [liesAt, Bool.or_eq_true]
    left
    rw [hd]
    simp [rowAt, hc, hn, sameLayout, Nat.mod_one]
  have h63' : ¬ (9223372036854775807 : Int) < (l.length : Int) := by omega
  have hdef : Builtin.unsafeString_ #[pt, it] ty #[.pointer (some ⟨g, o, none⟩), .int .i64 l.length] =
      (do
        let n ← asInt (.int .i64 l.length)
        if n < 0 then runtimePanic (.error "unsafe.String: len out of range")
        if n > IntKind.i64.max then unsupported (.unsafePointer "String: a length above the largest int")
        if n = 0 then pure (.string .empty)
        else if ← variablesAt ⟨g, o, none⟩ (← elemOf pt) n.toNat then do
          let s ← loadBytes ⟨g, o, none⟩ .empty n.toNat
          freeze ⟨g, o, none⟩ n.toNat
          pure (.string s)
        else unsupported (.unsafePointer "String: not so many bytes at ptr")) := rfl
  rw [hdef]
  have hmax : IntKind.i64.max = 9223372036854775807 := rfl
  have hneg : ¬ (l.length : Int) < 0 := by omega
  simp [asInt, asIntOf, hmax, h63', hneg, hl, variablesAt, hsh, elemOf, run_underlying hp, hlies, hlb]

theorem Ok.rest {b : Nat} {o : Obj} {s : List (Nat × Obj)} {w' : World} (ok : Ok u m (s :: S) w) (hb : ∃ p ∈ s, p.1 = b) (h1 : w'.os = w.os) (h2 : w'.output = w.output) (h3 : w'.tape = w.tape) (hne : ∀ k, k ≠ b → w'.heap[k]? = w.heap[k]?) : Ok u m S w' := by
  have hd := ok.nd
  simp only [List.flatten_cons] at hd
  obtain ⟨_, hd2, hd3⟩ := List.pairwise_append.1 hd
  obtain ⟨p, hp, rfl⟩ := hb
  have hmp : m p.1 = none := (ok.own p (by simp [hp])).2
  refine ⟨h1.trans ok.os, h2.trans ok.out, h3.trans ok.tape, fun b o hb => ?_, fun q hq => ?_, hd2, ok.base⟩
  · have : b ≠ p.1 := fun e => by rw [e, hmp] at hb; cases hb
    rw [hne b this]; exact ok.ro b o hb
  · have : q.1 ≠ p.1 := fun e => hd3 p hp q hq e.symm
    rw [hne _ this]
    exact ok.own q (by simp only [List.flatten_cons, List.mem_append]; exact .inr hq)

set_option maxHeartbeats 1000000 in
set_option maxRecDepth 100000 in
theorem bld_String_row (L : Lays.n169 P ρ) (X : Builder.Extra P ρ) (b g o cap : Nat) (p : Value) (cs : List Value) (l : List UInt8) (h0 : l ≠ []) (hn : l.length ≤ cap) (hlen : o + cap ≤ cs.length) (hcm : cap ≤ maxLen) (hcell : ∀ j x, l[j]? = some x → cs[o + j]? = some (.int .u8 x.toNat))
    (ok : Ok u m ([(b, Obj.cells [p, .slice (some ⟨g, o, none⟩) l.length cap].toArray (ρ.t 72) (0, 0))] :: [(g, Obj.cells cs.toArray (ρ.t 5) (0, 0))] :: S) w) :
    Calls P (ρ.f 169) #[.pointer (some ⟨b, 0, none⟩)] w fun e w' => e = .returned (.string (bs l)) ∧ Ok u m S w' := by
  have hbk : w.heap[b]? = some (.cells #[p, .slice (some ⟨g, o, none⟩) l.length cap] (ρ.t 72) (0, 0)) := (ok.own (b, _) (by simp)).1
  have hg : w.heap[g]? = some (.cells cs.toArray (ρ.t 5) (0, 0)) := (ok.own (g, _) (by simp)).1
  have hl0 : l.length ≠ 0 := by simpa using h0
  have c1 : w.drew.cell? ⟨b, 1, none⟩ = some (.slice (some ⟨g, o, none⟩) l.length cap) := by
    have : w.drew.heap[b]? = some (.cells #[p, .slice (some ⟨g, o, none⟩) l.length cap] (ρ.t 72) (0, 0)) := hbk
    rw [Lib.cell_of_heap this]; rfl
  have hSD : (Builtin.unsafeSliceData_ #[(ρ.t 37)] (ρ.t 127) #[.slice (some ⟨g, o, none⟩) l.length cap]).run P w.drew = .ok (.pointer (some ⟨g, o, none⟩)) w.drew :=
    Lib.run_unsafeSliceData_row _ _ _ _ _ _ (by omega)
  have hUS : (Builtin.unsafeString_ #[(ρ.t 127), (ρ.t 3)] (ρ.t 9) #[.pointer (some ⟨g, o, none⟩), .int .i64 l.length]).run P w.drew = .ok (.string ⟨l.toArray⟩) (w.drew.freeze ⟨g, o, none⟩ l.length) := by
    refine run_unsafeString_at w.drew (ρ.t 127) (ρ.t 3) (ρ.t 9) (ρ.t 5) L.t127 X.cellsByte g o cs.length (by have hg' : w.drew.heap[g]? = some (.cells cs.toArray (ρ.t 5) (0, 0)) := hg; simp [World.shape?, hg']) l h0 (by omega) (by unfold maxLen at hcm; omega) ?_
    intro j x hx
    have hg' : w.drew.heap[g]? = some (.cells cs.toArray (ρ.t 5) (0, 0)) := hg
    rw [addr_add]
    have := hcell j x hx
    simp [World.cell?, hg', this]
  have done : Ok u m S (w.drew.freeze ⟨g, o, none⟩ l.length) := by
    have ok2 := (ok.drop.draw (w.drawn + 1))
    refine Ok.rest (o := Obj.cells cs.toArray (ρ.t 5) (0, 0)) ok2 (b := g) ⟨_, List.mem_singleton.2 rfl, rfl⟩ ?_ ?_ ?_ ?_
    · unfold World.freeze; split <;> rfl
    · unfold World.freeze; split <;> rfl
    · unfold World.freeze; split <;> rfl
    · intro k hk
      unfold World.freeze
      split
      · rfl
      · simp only [Array.getElem?_modify]; rw [if_neg (fun h => hk h.symm)]; rfl
  clear ok hcell hlen
  have mixed := L.mixed
  have t72 := L.t72; have a72 := L.a72; have z72 := L.z72; have v72 := L.v72; have u72 := run_underlying L.t72
  have t70 := L.t70; have a70 := L.a70; have z70 := L.z70; have v70 := L.v70; have u70 := run_underlying L.t70
  have t37 := L.t37; have a37 := L.a37; have z37 := L.z37; have v37 := L.v37; have u37 := run_underlying L.t37
  have t127 := L.t127; have a127 := L.a127; have z127 := L.z127; have v127 := L.v127; have u127 := run_underlying L.t127
  have t3 := L.t3; have a3 := L.a3; have z3 := L.z3; have v3 := L.v3; have u3 := run_underlying L.t3
  have t9 := L.t9; have a9 := L.a9; have z9 := L.z9; have v9 := L.v9; have u9 := run_underlying L.t9
  have t5 := X.t5; have a5 := X.a5; have z5 := X.z5; have v5 := X.v5; have u5 := run_underlying X.t5
  go_enter L.f169, Body.n169_ntmps ρ
  go_wp2
  go_region_o
  all_goals (go_wp2; go_ret; exact ⟨rfl, done⟩)

set_option maxHeartbeats 2000000 in
set_option maxRecDepth 100000 in
theorem bld_String_nil (L : Lays.n169 P ρ) (X : Builder.Extra P ρ) (b : Nat) (p : Value) {Mx : List (Nat × Obj)}
    (ok : Ok u m ([(b, Obj.cells [p, .slice none 0 0].toArray (ρ.t 72) (0, 0))] :: Mx :: S) w) :
    Calls P (ρ.f 169) #[.pointer (some ⟨b, 0, none⟩)] w fun e w' => e = .returned (.string (bs [])) ∧ Ok u m S w' := by
  have hbk : w.heap[b]? = some (.cells #[p, .slice none 0 0] (ρ.t 72) (0, 0)) := (ok.own (b, _) (by simp)).1
  refine (Any.Builder_String_nil L X w.heap.size b p w hbk).mono ?_
  rintro e w' ⟨rfl, h⟩
  exact ⟨rfl, ok.drop.drop.below' h⟩
set_option maxHeartbeats 2000000 in
set_option maxRecDepth 100000 in
theorem bld_String_zero (L : Lays.n169 P ρ) (X : Builder.Extra P ρ) (b g o cap : Nat) (p : Value) (cs : List Value)
    (ok : Ok u m ([(b, Obj.cells [p, .slice (some ⟨g, o, none⟩) 0 cap].toArray (ρ.t 72) (0, 0))] :: [(g, Obj.cells cs.toArray (ρ.t 5) (0, 0))] :: S) w) :
    Calls P (ρ.f 169) #[.pointer (some ⟨b, 0, none⟩)] w fun e w' => e = .returned (.string (bs [])) ∧ Ok u m S w' := by
  have hbk : w.heap[b]? = some (.cells #[p, .slice (some ⟨g, o, none⟩) 0 cap] (ρ.t 72) (0, 0)) := (ok.own (b, _) (by simp)).1
  have hg : w.heap[g]? = some (.cells cs.toArray (ρ.t 5) (0, 0)) := (ok.own (g, _) (by simp)).1
  have done0 : Ok u m S w := ok.drop.drop
  clear ok
  have hUS := Any.unsafeString_none L X
  by_cases hc0 : cap = 0
  · subst hc0
    have hlt : b < w.heap.size := by
      rcases Nat.lt_or_ge b w.heap.size with h' | h'
      · exact h'
      · simp [Array.getElem?_eq_none h'] at hbk
    have c1 : w.drew.cell? ⟨b, 1, none⟩ = some (.slice (some ⟨g, o, none⟩) 0 0) := by
      have : w.drew.heap[b]? = some (.cells #[p, .slice (some ⟨g, o, none⟩) 0 0] (ρ.t 72) (0, 0)) := hbk
      rw [Lib.cell_of_heap this]; rfl
    have hSD : (Builtin.unsafeSliceData_ #[(ρ.t 37)] (ρ.t 127) #[.slice (some ⟨g, o, none⟩) 0 0]).run P w.drew = .ok (.pointer (some ⟨w.drew.heap.size, 0, none⟩)) (w.drew.alloc (.view ⟨g, o, none⟩ (ρ.t 5))) :=
      Lib.run_unsafeSliceData_zero w.drew _ _ (ρ.t 5) L.t127 ⟨g, o, none⟩ 0 ((ρ.t 5), cs.length) (by have hg' : w.drew.heap[g]? = some (.cells cs.toArray (ρ.t 5) (0, 0)) := hg; simp [World.shape?, hg'])
    have c2 : (w.drew.alloc (.view ⟨g, o, none⟩ (ρ.t 5))).cell? ⟨b, 1, none⟩ = some (.slice (some ⟨g, o, none⟩) 0 0) := by
      have : (w.drew.alloc (.view ⟨g, o, none⟩ (ρ.t 5))).heap[b]? = _ := (Lib.alloc_old w.drew _ b hlt).trans hbk
      rw [Lib.cell_of_heap this]; rfl
    have c3 : (w.alloc (.view ⟨g, o, none⟩ (ρ.t 5))).drew.cell? ⟨b, 1, none⟩ = some (.slice (some ⟨g, o, none⟩) 0 0) := c2
    have c0 : w.cell? ⟨b, 1, none⟩ = some (.slice (some ⟨g, o, none⟩) 0 0) := c1
    have done : Ok u m S (w.drew.alloc (.view ⟨g, o, none⟩ (ρ.t 5))) := ((done0.draw (w.drawn + 1)).alloc _).drop
    clear done0
    have mixed := L.mixed
    have t72 := L.t72; have a72 := L.a72; have z72 := L.z72; have v72 := L.v72; have u72 := run_underlying L.t72
    have t70 := L.t70; have a70 := L.a70; have z70 := L.z70; have v70 := L.v70; have u70 := run_underlying L.t70
    have t37 := L.t37; have a37 := L.a37; have z37 := L.z37; have v37 := L.v37; have u37 := run_underlying L.t37
    have t127 := L.t127; have a127 := L.a127; have z127 := L.z127; have v127 := L.v127; have u127 := run_underlying L.t127
    have t3 := L.t3; have a3 := L.a3; have z3 := L.z3; have v3 := L.v3; have u3 := run_underlying L.t3
    have t9 := L.t9; have a9 := L.a9; have z9 := L.z9; have v9 := L.v9; have u9 := run_underlying L.t9
    have t5 := X.t5; have a5 := X.a5; have z5 := X.z5; have v5 := X.v5; have u5 := run_underlying X.t5
    go_enter L.f169, Body.n169_ntmps ρ
    go_wp2
    go_region_o
    all_goals (go_wp2; go_ret; exact ⟨rfl, done⟩)
  · have c1 : w.drew.cell? ⟨b, 1, none⟩ = some (.slice (some ⟨g, o, none⟩) 0 cap) := by
      have : w.drew.heap[b]? = some (.cells #[p, .slice (some ⟨g, o, none⟩) 0 cap] (ρ.t 72) (0, 0)) := hbk
      rw [Lib.cell_of_heap this]; rfl
    have hSD : (Builtin.unsafeSliceData_ #[(ρ.t 37)] (ρ.t 127) #[.slice (some ⟨g, o, none⟩) 0 cap]).run P w.drew = .ok (.pointer (some ⟨g, o, none⟩)) w.drew :=
      Lib.run_unsafeSliceData_row _ _ _ _ _ _ hc0
    have done : Ok u m S w.drew := done0.draw (w.drawn + 1)
    clear hc0 done0
    have mixed := L.mixed
    have t72 := L.t72; have a72 := L.a72; have z72 := L.z72; have v72 := L.v72; have u72 := run_underlying L.t72
    have t70 := L.t70; have a70 := L.a70; have z70 := L.z70; have v70 := L.v70; have u70 := run_underlying L.t70
    have t37 := L.t37; have a37 := L.a37; have z37 := L.z37; have v37 := L.v37; have u37 := run_underlying L.t37
    have t127 := L.t127; have a127 := L.a127; have z127 := L.z127; have v127 := L.v127; have u127 := run_underlying L.t127
    have t3 := L.t3; have a3 := L.a3; have z3 := L.z3; have v3 := L.v3; have u3 := run_underlying L.t3
    have t9 := L.t9; have a9 := L.a9; have z9 := L.z9; have v9 := L.v9; have u9 := run_underlying L.t9
    have t5 := X.t5; have a5 := X.a5; have z5 := X.z5; have v5 := X.v5; have u5 := run_underlying X.t5
    go_enter L.f169, Body.n169_ntmps ρ
    go_wp2
    go_region_o
    all_goals (go_wp2; go_ret; exact ⟨rfl, done⟩)

/-- (*strings.Builder).String: what was written; the builder is let go. -/
theorem bld_String (L : Lays.n169 P ρ) (X : Builder.Extra P ρ) {b : Nat} {a v : Value} {xs : List Int} {Mx : List (Nat × Obj)} (h : ORow (ρ.t 5) 1 (pI .u8) m v xs Mx) (ok : Ok u m ([(b, .cells [a, v].toArray (ρ.t 72) (0, 0))] :: Mx :: S) w) :
    Calls P (ρ.f 169) [.pointer (some ⟨b, 0, none⟩)].toArray w fun e w' => (e = .returned (.string (bs (bytesOf xs))) ∧ Ok u m S w') ∧ (bytesOf xs).length ≤ LIMS := by
  have hlen : (bytesOf xs).length ≤ LIMS := by rw [bytesOf_len]; exact h.form.2
  suffices Calls P (ρ.f 169) #[.pointer (some ⟨b, 0, none⟩)] w fun e w' => e = .returned (.string (bs (bytesOf xs))) ∧ Ok u m S w' from this.mono fun e w' h => ⟨h, hlen⟩
  rcases h with ⟨rfl, rfl, rfl⟩ | ⟨g, o, cap, c, rfl, rfl, h3, h4, h5, h6, h7⟩
  · exact bld_String_nil L X b a ok
  · by_cases h0 : xs = []
    · subst h0
      exact bld_String_zero L X b g o cap a c ok
    · have e1 : xs.length = (bytesOf xs).length := bytesOf_len.symm
      rw [e1] at ok
      refine bld_String_row L X b g o cap a c (bytesOf xs) (by intro h; apply h0; exact List.eq_nil_of_length_eq_zero (by rw [e1, h]; rfl)) (by rw [bytesOf_len]; exact h3) (by omega) h4 (fun j x hj => ?_) ok
      simp only [bytesOf, List.getElem?_map, Option.map_eq_some_iff] at hj
      obtain ⟨y, hy, rfl⟩ := hj
      have := h7 j y hy
      obtain ⟨e2, hr⟩ := this
      rw [inR_u8] at hr
      have h8 : ((c.drop (o + j * 1)).take 1)[0]? = some (.int .u8 y) := by rw [e2]; rfl
      rw [List.getElem?_take_of_lt (by omega), List.getElem?_drop] at h8
      simp only [Nat.mul_one, Nat.add_zero] at h8
      rw [h8]
      congr 2
      simp only [UInt8.toNat_ofNat']
      omega
end

/-! ### the copy check's own steps -/
section
variable {P : Program} {Q : Exit → Act → World → Prop} {n : Nat} {L : List (Nat × Value)} {l rest : List Oper} {a : Act} {w u : World} {m : Mem} {S : Segs} {d : Nat} {ty : TypeId} {pos : String} {after : Array Edge} {g : Option (Nat × Bool)} {C : World → Prop}
theorem y_qnil {x y : Operand} {t t' e : TypeId} {q : Option Addr} (ht : P.underlying t = some (.pointer e)) (hx : ev L x = some (.pointer q)) (hy : ev L y = some (.pointer none)) : Yields P C L (.binOp .eql t x y t') ty (.bool q.isNone) := by
  intro ρ w dst pos after g E ok
  have h2 : binOp .eql t (.pointer q) (.pointer none) = (do pure (.bool (← Op.equal t (.pointer q) (.pointer none)))) := rfl
  simp only [execOp, E hx, E hy, eqGuard, h2]
  have := run_ptr_nil (w := w) ht q
  cases q <;> simp_all [Result.andThen]
theorem y_sameptr {x y : Operand} {t t' e : TypeId} {q : Addr} (ht : P.underlying t = some (.pointer e)) (hi : ∃ j, P.info? e = some j) (hx : ev L x = some (.pointer (some q))) (hy : ev L y = some (.pointer (some q))) : Yields P C L (.binOp .neq t x y t') ty (.bool false) := by
  intro ρ w dst pos after g E ok
  obtain ⟨j, hj⟩ := hi
  simp only [execOp, E hx, E hy, eqGuard]
  have := Lib.run_neq_ptr_same (P := P) w q ht hj
  simp [this, Result.andThen]
theorem y_toUnsafe {x : Operand} {s t e T : TypeId} {cells b o sz : Nat} (hs : P.underlying s = some (.pointer e)) (hd : P.underlying t = some .unsafePointer) (hi : ∃ j, P.info? e = some j ∧ j.size = sz) (hz : sz ≠ 0) (hC : ∀ w, C w → w.shape? b = some (T, cells)) (ho : o < cells) (hx : ev L x = some (.pointer (some ⟨b, o, none⟩))) :
    Yields P C L (.convert s t x) ty (.pointer (some ⟨b, o, none⟩)) := by
  intro ρ w dst pos after g E ok
  obtain ⟨j, hj, hjs⟩ := hi
  simp only [execOp, E hx]
  have := Lib.run_to_unsafe (P := P) w ⟨b, o, none⟩ hs hd hj (by omega) (hC w ok) ho
  simp [this, Result.andThen]
theorem y_fromUnsafe {x : Operand} {s t e T : TypeId} {cells b o : Nat} (hs : P.underlying s = some .unsafePointer) (hd : P.underlying t = some (.pointer e)) (hi : ∃ j, P.info? e = some j) (hC : ∀ w, C w → w.shape? b = some (T, cells)) (hl : liesAt P P.depth T (cells / P.cellsOf T) o e 1 = true) (hx : ev L x = some (.pointer (some ⟨b, o, none⟩))) :
    Yields P C L (.convert s t x) ty (.pointer (some ⟨b, o, none⟩)) := by
  intro ρ w dst pos after g E ok
  obtain ⟨j, hj⟩ := hi
  simp only [execOp, E hx]
  have := Lib.run_from_unsafe (P := P) w ⟨b, o, none⟩ hs hd hj (hC w ok) hl
  simp [this, Result.andThen]
theorem y_noEscape {f : FuncId} {fn : Func} {x : Operand} {v : Value} {ats : Array TypeId} (hf : P.funcs[f]? = some fn) (hname : (fn.name == "runtime.NumGoroutine") = false) (hb : fn.body.isNone = true) (hn : Extern.findNext fn = none) (he : Extern.find fn = some Extern.AbiNoEscape.same) (hx : ev L x = some v) :
    Yields P C L (.call { callee := .value (.func f), args := #[x], argTypes := ats }) ty v := by
  intro ρ w dst pos after g E ok
  have : execOp ρ ⟨dst, .call { callee := .value (.func f), args := #[x], argTypes := ats }, ty, pos, after, g⟩ = callFunc f #[v] := by
    simp only [execOp, resolve, List.map_toArray, List.map_cons, List.map_nil, E hx, E (x := .func f) (v := .func (.func f) #[] #[]) rfl]; rfl
  rw [this, run_callFunc_extern hf hname hb hn he, Lib.run_noEscape]
  simp [Result.andThen]
theorem shape_own {b T : Nat} {c : List Value} {f : Nat × Nat} (i : Nat) (hS : segAt S i = [(b, Obj.cells c.toArray T f)]) : ∀ w, Ok u m S w → w.shape? b = some (T, c.length) := fun w ok => by
  have hm : (b, Obj.cells c.toArray T f) ∈ S.flatten := mem_segAt (k := i) (by rw [hS]; simp)
  have hb := (ok.own _ hm).1
  simp only at hb
  simp [World.shape?, hb]
end
end Go.X
