/- Bytes to strings, min and max, slices.Reverse on an owned row. -/
import Derived.Test.YtmmioinglmeoiaaLibS
import Derived.Lib.MinMax
namespace Go.X
open Go.Shelf Go.RowKit Go.Proofs

theorem InR.max {k : IntKind} {p q : Int} (hp : InR k p) (hq : InR k q) : InR k (max p q) := by
  rw [Int.max_def]; split <;> assumption
theorem InR.min {k : IntKind} {p q : Int} (hp : InR k p) (hq : InR k q) : InR k (min p q) := by
  rw [Int.min_def]; split <;> assumption

section
variable {P : Program} {C : World → Prop} {L : List (Nat × Value)} {ty : TypeId}
theorem y_max {x y : Operand} {k k' : IntKind} {p q : Int} {ats : Array TypeId} (hx : ev L x = some (.int k p)) (hy : ev L y = some (.int k' q)) :
    Yields P C L (.call { callee := .builtin .max, args := #[x, y], argTypes := ats }) ty (.int k (max p q)) := by
  intro ρ w dst pos after g E ok
  have := Lib.run_max_ints (P := P) w ats ty k k' p q
  simp [E hx, E hy, this, go_sem]
theorem y_min {x y : Operand} {k k' : IntKind} {p q : Int} {ats : Array TypeId} (hx : ev L x = some (.int k p)) (hy : ev L y = some (.int k' q)) :
    Yields P C L (.call { callee := .builtin .min, args := #[x, y], argTypes := ats }) ty (.int k (min p q)) := by
  intro ρ w dst pos after g E ok
  have := Lib.run_min_ints (P := P) w ats ty k k' p q
  simp [E hx, E hy, this, go_sem]

theorem y_neg {x : Operand} {k : IntKind} {p : Int} {t : TypeId} (hx : ev L x = some (.int k p)) : Yields P C L (.unOp .neg t x) ty (.int k (k.wrap (-p))) := by
  intro ρ w dst pos after g E ok
  simp [execOp, E hx, Op.unary, go_sem]

/-- The string of bytes. -/
def bytesOf (xs : List Int) : List UInt8 := xs.map fun n => UInt8.ofNat n.toNat
theorem bytesOf_len {xs : List Int} : (bytesOf xs).length = xs.length := by simp [bytesOf]
theorem bytesOf_toNat (l : List UInt8) : bytesOf (l.map fun b => (b.toNat : Int)) = l := by
  unfold bytesOf
  rw [List.map_map]
  conv => rhs; rw [← List.map_id l]
  apply List.map_congr_left
  intro b _
  simp

/-- In all worlds of C the value is a slice with the bytes xs. -/
def BR (C : World → Prop) (v : Value) (xs : List Int) : Prop :=
  ∀ w, C w → ∃ a cap, v = .slice a xs.length cap ∧ (xs = [] ∨ ∃ b o, a = some ⟨b, o, none⟩ ∧ ∀ (j : Nat) x, xs[j]? = some x → w.cell? ⟨b, o + j, none⟩ = some (.int .u8 x))
theorem BR.src {m : Mem} {w : World} {v : Value} {xs : List Int} (h : SrcOK 1 (pI .u8) m w v xs) : ∃ a cap, v = .slice a xs.length cap ∧ (xs = [] ∨ ∃ b o, a = some ⟨b, o, none⟩ ∧ ∀ (j : Nat) x, xs[j]? = some x → w.cell? ⟨b, o + j, none⟩ = some (.int .u8 x)) := by
  obtain ⟨ad, cap, news, rfl, h1, h2, h3⟩ := h
  refine ⟨ad, cap, rfl, ?_⟩
  rcases h3 with h3 | ⟨b, o, rfl, h3⟩
  · exact .inl h3
  · refine .inr ⟨b, o, rfl, fun j x hj => h3 j _ ?_⟩
    have h4 := h2 j x hj
    obtain ⟨e, _⟩ := h4
    have := congrArg (fun l : List Value => l[0]?) e
    simpa [List.getElem?_take, List.getElem?_drop] using this
end

section
variable {u : World} {m : Mem} {S B : Segs} {v : Value} {xs : List Int} {Mx : List (Nat × Obj)} {e : Nat}
theorem BR.ofRow (h : ORow e 1 (pI .u8) m v xs Mx) (j : Nat) (hS : segAt S j = Mx) : BR (Ok u m S) v xs := fun _ ok => BR.src (SrcOK.ofRow h j hS ok)
theorem BR.ofL (h : pL 1 (pI .u8) m [v] xs) : BR (Ok u m S) v xs := fun _ ok => BR.src (SrcOK.ofL h ok)
theorem BR.crow (M : Mono (pI .u8)) (h : ORow e 1 (pI .u8) m v xs Mx) (k : Nat) (hk : B[k]? = some Mx) : BR (Cls u m B) v xs := by
  rintro w ⟨m', S', hle, ok, hB⟩
  obtain ⟨i, hi⟩ := List.mem_iff_getElem?.1 (hB.mem _ (memAt k hk))
  exact BR.src (SrcOK.ofRow (h.up M hle) i (by simp [segAt, hi]) ok)
end

theorem run_bstr {P : Program} {w : World} {s d e : TypeId} {a : Option Addr} {cap : Nat} {xs : List Int} (hs : P.underlying s = some (.slice e)) (he : P.underlying e = some (.int .u8)) (hd : P.underlying d = some .string)
    (h : xs = [] ∨ ∃ b o, a = some ⟨b, o, none⟩ ∧ ∀ (j : Nat) x, xs[j]? = some x → w.cell? ⟨b, o + j, none⟩ = some (.int .u8 x)) :
    (convert s d (.slice a xs.length cap)).run P w = .ok (.string (bs (bytesOf xs))) w := by
  have key : ∀ x : Addr, (∀ (j : Nat) y, xs[j]? = some y → w.cell? (x.add j) = some (.int .u8 y)) → (convert s d (.slice (some x) xs.length cap)).run P w = .ok (.string (bs (bytesOf xs))) w := by
    intro x hc
    rw [run_convert_bytes_string w s d e (some x) xs.length cap hs he hd]
    have hl := run_loadCells_list (P := P) w x (xs.map (Value.int .u8)) (fun j v hj => by
      rw [List.getElem?_map] at hj
      cases hx : xs[j]? with
      | none => rw [hx] at hj; cases hj
      | some y =>
        rw [hx] at hj
        cases hj
        exact hc j y hx)
    simp only [List.length_map] at hl
    rw [run_bytesToString w x xs.length cap _ hl]
    have hf : ∀ (l : List Int) (r : ByteArray), l.foldl (fun r n => r.push (UInt8.ofNat n.toNat)) r = ⟨r.data ++ (bytesOf l).toArray⟩ := by
      intro l
      induction l with
      | nil => intro r; simp [bytesOf]
      | cons n l ih => intro r; rw [List.foldl_cons, ih]; simp [bytesOf, ByteArray.push]
    rw [hf]
    have he0 : ByteArray.empty.data = #[] := rfl
    rw [he0]
    simp [bs]
  rcases h with rfl | ⟨b, o, rfl, hc⟩
  · cases a with
    | none =>
      rw [run_convert_bytes_string w s d e none _ cap hs he hd]
      rfl
    | some x => exact key x (by simp)
  · exact key _ (fun j y hj => by rw [addr_add]; exact hc j y hj)

theorem y_bstr {P : Program} {C : World → Prop} {L : List (Nat × Value)} {ty : TypeId} {x : Operand} {v : Value} {xs : List Int} {s d e : TypeId} (hs : P.underlying s = some (.slice e)) (he : P.underlying e = some (.int .u8)) (hd : P.underlying d = some .string)
    (hx : ev L x = some v) (hh : BR C v xs) : Yields P C L (.convert s d x) ty (.string (bs (bytesOf xs))) := by
  intro ρ w dst pos after g E ok
  obtain ⟨a, cap, rfl, h⟩ := hh w ok
  have := run_bstr (P := P) (cap := cap) hs he hd h
  simp only [execOp, E hx, Sem.run_bind, this, Result.andThen_ok, Sem.run_pure]

/-! ### setting cells of an owned block -/
def putL (c : List Value) (o : Nat) : List Value → List Value
  | [] => c
  | v :: vs => putL (c.set o v) (o + 1) vs
theorem putL_wr : ∀ (vs c : List Value) (o : Nat), putL c o vs = wr c o vs
  | [], _, _ => rfl
  | v :: vs, c, o => by rw [putL, wr, putL_wr vs]

theorem Ok.setCells {u : World} {m : Mem} {S : Segs} {b : Nat} {T : TypeId} {f : Nat × Nat} : ∀ (vs : List Value) (o : Nat) (c : List Value) (w : World), Ok u m ([(b, .cells c.toArray T f)] :: S) w → Ok u m ([(b, .cells (wr c o vs).toArray T f)] :: S) (w.setCells b o vs)
  | [], _, _, _, ok => ok
  | v :: vs, o, c, w, ok => by
    have ok1 := ok.setCell (off := o) v
    simp only [List.setIfInBounds_toArray] at ok1
    exact Ok.setCells vs (o + 1) _ _ ok1

theorem lib_Reverse {P : Program} {ρ : Ren} {u w : World} {m : Mem} {S : Segs} {e : Nat} {v : Value} {xs : List (List UInt8)} {Mx : List (Nat × Obj)} (Lc : Lays2.n17 P ρ) (k : Nat) (hk : S[k]? = some Mx) (h : ORow e 1 pS m v xs Mx) (ok : Ok u m S w) :
    Calls P (ρ.f 17) [v].toArray w fun r w' => r = .returned (.tuple #[]) ∧ ∃ M, ORow e 1 pS m v xs.reverse M ∧ Ok u m (M :: S.eraseIdx k) w' := by
  have ok1 := ok.frs k hk
  rcases h with ⟨rfl, rfl, rfl⟩ | ⟨b, o, cap, c, rfl, rfl, h3, h4, h5, h6, h7⟩
  · refine (Any.slices_Reverse_string_empty Lc none 0 w).mono ?_
    rintro r w' ⟨rfl, rfl⟩
    exact ⟨rfl, [], .inl ⟨rfl, rfl, rfl⟩, ok1⟩
  · have hc : ∀ i x, xs[i]? = some x → c[o + i]? = some (.string (bs x)) ∧ x.length ≤ LIMS := by
      intro i x hi
      obtain ⟨e1, e2⟩ := h7 i x hi
      have := congrArg (fun l : List Value => l[0]?) e1
      exact ⟨by simpa [List.getElem?_take, List.getElem?_drop] using this, e2⟩
    have hlt : ∀ i, i < xs.length → ∃ x, xs[i]? = some x := fun i hi => ⟨xs[i], List.getElem?_eq_getElem hi⟩
    have hcell : ∀ i, i < xs.length → w.cell? ⟨b, o + i, none⟩ = some (.string (bs (xs.getD i []))) := by
      intro i hi
      obtain ⟨x, hx⟩ := hlt i hi
      simp [World.cell?, ok1.ownCell, (hc i x hx).1, List.getD_eq_getElem?_getD, hx]
    have hfz : ∀ j, j < xs.length → w.frozen? ⟨b, o + j, none⟩ = false := fun j _ => by simp [World.frozen?, ok1.ownCell]
    refine (Any.slices_Reverse_string_cells Lc b o xs.length cap (fun i => bs (xs.getD i [])) w (by unfold LIMS at h6; omega) hcell hfz).mono ?_
    rintro r w' ⟨rfl, q, rfl⟩
    have hstr : Lib.strsOf (fun i => bs (xs.getD i [])) xs.length = xs := by
      apply List.ext_getElem?
      intro i
      simp only [Lib.strsOf, List.getElem?_map]
      by_cases hi : i < xs.length
      · simp [hi, List.getD_eq_getElem?_getD, bs]
      · simp [hi]
    rw [hstr]
    refine ⟨rfl, _, .inr ⟨b, o, cap, wr c o (xs.reverse.map encStr), ?_, rfl, by simpa using h3, h4, by rw [wr_length]; exact h5, by simpa using h6, ?_⟩, Ok.setCells _ _ _ _ (ok1.drewN q)⟩
    · simp
    · intro i x hi
      have hil : i < xs.length := by have := (List.getElem?_eq_some_iff.1 hi).1; simpa using this
      have hxm : x ∈ xs := by simpa using List.mem_of_getElem? hi
      obtain ⟨j, hj⟩ := List.mem_iff_getElem?.1 hxm
      have hg := wr_get (xs.reverse.map encStr) c o (o + i) (by simp; omega)
      rw [if_pos (by simp; omega)] at hg
      have : (wr c o (xs.reverse.map encStr))[o + i]? = some (.string (bs x)) := by
        rw [hg]; rw [List.getElem?_map, show o + i - o = i by omega, hi]; rfl
      refine (show pS m ((List.drop (o + i * 1) (wr c o (xs.reverse.map encStr))).take 1) x from ?_)
      have e1 : (List.drop (o + i * 1) (wr c o (xs.reverse.map encStr))).take 1 = [.string (bs x)] := by
        rw [Nat.mul_one, List.take_one, List.head?_drop, this]; rfl
      rw [e1]
      exact ⟨rfl, (hc j x hj).2⟩

/-! ### the digits of a number, increased by one -/
def incK (s : List UInt8) : Nat → List UInt8
  | 0 => 49 :: List.replicate s.length 48
  | k + 1 => if s.getD k 0 = 57 then incK s k else s.take k ++ (s.getD k 0 + 1) :: List.replicate (s.length - (k + 1)) 48
def incs (s : List UInt8) : Option (List UInt8) := if s.length < LIMS then some (incK s s.length) else none

def bcells (l : List UInt8) : List Value := l.map fun b => Value.int .u8 b.toNat
theorem bcells_length (l : List UInt8) : (bcells l).length = l.length := by simp [bcells]

section
variable {P : Program} {Q : Exit → Act → World → Prop} {n : Nat} {L : List (Nat × Value)} {l : List Oper} {a : Act} {u w : World} {m : Mem} {S : Segs} {rest : List Oper} {ty : TypeId} {pos : String} {after : Array Edge} {g : Option (Nat × Bool)} {d : Nat}
theorem l_bytes {sT dT e : TypeId} {x : Operand} {s : List UInt8} (E : Env n a L) (ok : Ok u m S w) (hs : P.underlying sT = some .string) (hd : P.underlying dT = some (.slice e)) (he : P.underlying e = some (.int .u8)) (hx : ev L x = some (.string (bs s)))
    (hg : want l L g = some true) (hd' : Nat.blt d n = true)
    (K : ∀ b cap tail f a' w', Env n a' ((d, .slice (some ⟨b, 0, none⟩) s.length cap) :: L) → (bcells s ++ tail).length ≤ f.1 → Ok u m ([(b, .cells (bcells s ++ tail).toArray e f)] :: S) w' → wpList P l.toArray Q rest a' w') :
    wpList P l.toArray Q (⟨some d, .convert sT dT x, ty, pos, after, g⟩ :: rest) a w := by
  obtain ⟨cap, tail, f, w1, hr, hf, ok1⟩ : ∃ cap tail f w1, (convert sT dT (.string (bs s))).run P w = .ok (.slice (some ⟨w.heap.size, 0, none⟩) s.length cap) w1 ∧ (bcells s ++ tail).length ≤ f.1 ∧ Ok u m ([(w.heap.size, .cells (bcells s ++ tail).toArray e f)] :: S) w1 := by
    have hr := run_bytes_of_string (P := P) w sT dT e (bs s) hs hd he
    have hc : bytesRow (bs s) (grownCap w (bs s).size 0 e) = (bcells s ++ List.replicate (grownCap w (bs s).size 0 e - (bs s).size) (Value.int .u8 0)).toArray := by
      simp [bytesRow, bcells, bs]
    refine ⟨grownCap w (bs s).size 0 e, List.replicate (grownCap w (bs s).size 0 e - (bs s).size) (Value.int .u8 0), ((bytesRow (bs s) (grownCap w (bs s).size 0 e)).size, (bytesRow (bs s) (grownCap w (bs s).size 0 e)).size + 1), _, hr, ?_, ?_⟩
    · rw [hc]; simp
    · have := (ok.draw (w.drawn + 1)).alloc (.cells (bytesRow (bs s) (grownCap w (bs s).size 0 e)) e ((bytesRow (bs s) (grownCap w (bs s).size 0 e)).size, (bytesRow (bs s) (grownCap w (bs s).size 0 e)).size + 1))
      rw [← hc]
      exact this
  exact l_op (v := .slice (some ⟨w.heap.size, 0, none⟩) s.length cap) (w' := w1) E hg hd' (by simp only [execOp, E.ev hx, Sem.run_bind, hr, Result.andThen_ok, Sem.run_pure]) (fun a' E' => K w.heap.size cap tail f a' w1 E' hf ok1)

theorem l_storeF {t : TypeId} {x y : Operand} {b o : Nat} {c : List Value} {T : TypeId} {f : Nat × Nat} {v : Value} (E : Env n a L) (ok : Ok u m ([(b, .cells c.toArray T f)] :: S) w)
    (hx : ev L x = some (.pointer (some ⟨b, o, none⟩))) (hy : ev L y = some v) (hi : ∃ i, P.info? t = some i ∧ i.size = 1) (h1 : v.oneCell' = true) (hv : v.cells = #[v]) (hb : o < c.length) (hf : c.length ≤ f.1) (hg : want l L g = some true)
    (K : ∀ w', Ok u m ([(b, .cells (c.set o v).toArray T f)] :: S) w' → wpList P l.toArray Q rest a w') :
    wpList P l.toArray Q (⟨none, .store t x y, ty, pos, after, g⟩ :: rest) a w := by
  obtain ⟨i, hi, hs⟩ := hi
  have hcell : w.cell? ⟨b, o, none⟩ = some (c[o]'hb) := by simp [World.cell?, ok.ownCell, hb]
  have hfz : w.frozen? ⟨b, o, none⟩ = false := by
    obtain ⟨f1, f2⟩ := f
    simp only [World.frozen?, ok.ownCell]
    simp only at hf
    have : decide (f1 ≤ o) = false := decide_eq_false (by omega)
    simp [this]
  have hst : (store ⟨b, o, none⟩ v).run P w = .ok () (w.setCell ⟨b, o, none⟩ v) := by
    cases v <;> simp [Value.oneCell'] at h1 <;> simp [store, Sem.run, hcell, hfz]
  have ok1 := ok.setCell (off := o) v
  simp only [List.setIfInBounds_toArray] at ok1
  refine l_op0 (w' := w.setCell ⟨b, o, none⟩ v) E hg ?_ (K _ ok1)
  have hs' : (sizeOf t).run P w = .ok v.cells.size w := by rw [hv]; simp [sizeOf, typeInfo, hi, hs, go_sem]
  simp only [execOp, E.ev hx, E.ev hy, Instr.storeAt, Instr.sureAddr, storeVar, Sem.run_bind, Sem.run_pure, hs', Result.andThen_ok, ne_eq, not_true_eq_false, if_false]
  rw [hv]
  simp only [storeCells, addr_add, Nat.add_zero, Sem.run_bind, hst, Result.andThen_ok, Sem.run_pure]
end

def incB (s : List UInt8) (k : Nat) : List UInt8 := s.take k ++ List.replicate (s.length - k) 48
theorem incB_all (s : List UInt8) : incB s s.length = s := by simp [incB]
theorem incB_nil (s : List UInt8) : incB s 0 = List.replicate s.length 48 := by simp [incB]
theorem incB_length {s : List UInt8} {k : Nat} (h : k ≤ s.length) : (incB s k).length = s.length := by simp [incB]; omega
def incO (s : List UInt8) : Nat → Option Nat
  | 0 => none
  | k + 1 => if s.getD k 0 = 57 then incO s k else some k
theorem incIter (s : List UInt8) : ∀ k, iter (fun k : Nat => match k with | 0 => some (Sum.inr none) | k + 1 => if s.getD k 0 = 57 then some (Sum.inl k) else some (Sum.inr (some k))) (k + 1) k = some (incO s k)
  | 0 => rfl
  | k + 1 => by
    rw [iter]
    by_cases h : s.getD k 0 = 57
    · simp only [h, if_true, incO]; exact incIter s k
    · simp only [h, if_false, incO]
theorem incK_none {s : List UInt8} : ∀ {k : Nat}, incO s k = none → incK s k = 49 :: List.replicate s.length 48
  | 0, _ => rfl
  | k + 1, h => by
    unfold incO at h; unfold incK
    split at h
    · rename_i h0; rw [if_pos h0]; exact incK_none h
    · cases h
theorem incK_some {s : List UInt8} : ∀ {k j : Nat}, incO s k = some j → incK s k = s.take j ++ (s.getD j 0 + 1) :: List.replicate (s.length - (j + 1)) 48
  | 0, _, h => by cases h
  | k + 1, j, h => by
    unfold incO at h; unfold incK
    split at h
    · rename_i h0; rw [if_pos h0]; exact incK_some h
    · rename_i h0; rw [if_neg h0]; cases h; rfl
theorem u8_inc (c : UInt8) : IntKind.wrap .u8 ((c.toNat : Int) + 1) = ((c + 1).toNat : Int) := by
  have h := c.toNat_lt
  rw [UInt8.toNat_add]
  show IntKind.wrap .u8 _ = (((c.toNat + 1) % 256 : Nat) : Int)
  by_cases h1 : c.toNat = 255
  · rw [h1]; decide
  · rw [wrap_of (show InR .u8 _ from ⟨by show (0 : Int) ≤ _; omega, by show _ ≤ (255 : Int); omega⟩)]
    omega
theorem incB_split {s : List UInt8} {k : Nat} (h : k < s.length) : incB s (k + 1) = s.take k ++ s.getD k 0 :: List.replicate (s.length - (k + 1)) 48 := by
  unfold incB
  have e := List.take_append_getElem h
  rw [← e, List.getD_eq_getElem?_getD, List.getElem?_eq_getElem h, List.append_assoc]
  rfl
theorem bcells_split (x y : List UInt8) (c : UInt8) (tail : List Value) : bcells (x ++ c :: y) ++ tail = bcells x ++ .int .u8 c.toNat :: (bcells y ++ tail) := by
  simp [bcells]
theorem incB_at (tail : List Value) {s : List UInt8} {k : Nat} (h : k < s.length) : ((bcells (incB s (k + 1)) ++ tail).drop k).take [Value.int .u8 ((s.getD k 0).toNat : Int)].length = [Value.int .u8 ((s.getD k 0).toNat : Int)] := by
  rw [incB_split h, bcells_split, List.drop_append_of_le_length (by rw [bcells_length, List.length_take]; omega), List.drop_of_length_le (by rw [bcells_length, List.length_take]; omega)]
  rfl
theorem cells_set (x y : List UInt8) (c d : UInt8) (tail : List Value) {k : Nat} (h : x.length = k) : (bcells (x ++ c :: y) ++ tail).set k (.int .u8 d.toNat) = bcells (x ++ d :: y) ++ tail := by
  subst h
  rw [bcells_split, bcells_split, List.set_append_right _ _ (by rw [bcells_length]; omega), bcells_length, Nat.sub_self]
  rfl
theorem incB_set (tail : List Value) {s : List UInt8} {k : Nat} (h : k < s.length) : (bcells (incB s (k + 1)) ++ tail).set k (.int .u8 ((s.getD k 0 + 1).toNat : Int)) = bcells (s.take k ++ (s.getD k 0 + 1) :: List.replicate (s.length - (k + 1)) 48) ++ tail := by
  rw [incB_split h]
  exact cells_set _ _ _ _ _ (by rw [List.length_take]; omega)
theorem incB_zero (tail : List Value) {s : List UInt8} {k : Nat} (h : k < s.length) : (bcells (incB s (k + 1)) ++ tail).set k (.int .u8 48) = bcells (incB s k) ++ tail := by
  have h1 : incB s k = s.take k ++ (48 : UInt8) :: List.replicate (s.length - (k + 1)) 48 := by
    unfold incB
    rw [show s.length - k = (s.length - (k + 1)) + 1 from by omega, List.replicate_succ]
  rw [h1, incB_split h]
  exact cells_set _ _ _ (48 : UInt8) _ (by rw [List.length_take]; omega)
theorem BR.ofCells {u : World} {m : Mem} {S : Segs} {b cap : Nat} {T : TypeId} {f : Nat × Nat} (l : List UInt8) (tail : List Value) :
    BR (Ok u m ([(b, Obj.cells (bcells l ++ tail).toArray T f)] :: S)) (.slice (some ⟨b, 0, none⟩) l.length cap) (l.map fun c => (c.toNat : Int)) := by
  intro w ok
  refine ⟨_, cap, by rw [List.length_map], .inr ⟨b, 0, rfl, fun j x hj => ?_⟩⟩
  rw [List.getElem?_map] at hj
  cases hx : l[j]? with
  | none => rw [hx] at hj; cases hj
  | some c =>
    rw [hx] at hj
    cases hj
    have hlt := (List.getElem?_eq_some_iff.1 hx).1
    have hcc : l[j] = c := (List.getElem?_eq_some_iff.1 hx).2
    simp [World.cell?, ok.ownCell, bcells, List.getElem?_append, hlt, hcc]
end Go.X
