/- Maps that the call makes: as lists of pairs. -/
import Derived.Test.YtmmioinglmeoiaaLibI
import Derived.Maps.Keyed
import Derived.Carry
namespace Go.X
open Go.Maps (Keyed)
set_option linter.unusedSectionVars false
set_option linter.unusedVariables false

def mput {K V : Type} [BEq K] : List (K × V) → K → V → List (K × V)
  | [], k, x => [(k, x)]
  | (k', y) :: r, k, x => if k == k' then (k, x) :: r else (k', y) :: mput r k x
def mget {K V : Type} [BEq K] (l : List (K × V)) (k : K) : Option V := (l.find? fun p => k == p.1).map (·.2)
/-- A store, as long as the map is of some size only. -/
def mset {K V : Type} [BEq K] (l : List (K × V)) (k : K) (x : V) : Option (List (K × V)) := if l.length < LIM then some (mput l k x) else none

/-- Readings of one Value: of a type of one cell, and of a struct's. -/
def oneV {V : Type} (R : Rp V) (m : Mem) (v : Value) (x : V) : Prop := R m [v] x
def aggV {V : Type} (R : Rp V) (m : Mem) (v : Value) (x : V) : Prop := ∃ cs : List Value, v = .agg cs.toArray ∧ R m cs x
structure MonoV {V : Type} (R : Mem → Value → V → Prop) : Prop where
  up : ∀ {m m' : Mem} {v : Value} {x : V}, m.le m' → R m v x → R m' v x
theorem monoOne {V : Type} {R : Rp V} (M : Mono R) : MonoV (oneV R) := ⟨fun h k => M.up h k⟩
theorem monoAgg {V : Type} {R : Rp V} (M : Mono R) : MonoV (aggV R) := ⟨fun h ⟨cs, e, k⟩ => ⟨cs, e, M.up h k⟩⟩
def zeroV (P : Program) (t : TypeId) : Option Value := (P.info? t).bind (·.zero)
theorem zeroV_run {P : Program} {t : TypeId} {v : Value} (h : zeroV P t = some v) (w : World) : (zeroValue t).run P w = .ok v w := by
  unfold zeroV at h
  cases hi : P.info? t with
  | none => rw [hi] at h; cases h
  | some i =>
    rw [hi] at h
    simp only [Option.bind_some] at h
    simp [zeroValue, typeInfo, hi, h, go_sem]

/-- How a key's Value reads: 'R' is a reading of one value; equal values read alike, and one reading has one value. -/
structure KeyR (P : Program) (kt : TypeId) {K : Type} (KR : Value → K → Prop) : Prop where
  keyed : Keyed P kt
  lit : ∀ {v k}, KR v k → ∃ l, keyOf P kt v = some l
  inj : ∀ {v v' k k'}, KR v k → KR v' k' → (v = v' ↔ k = k')

def kI (q : IntKind) (v : Value) (x : Int) : Prop := v = .int q x ∧ InR q x
def kS (v : Value) (x : List UInt8) : Prop := v = .string (bs x) ∧ x.length ≤ LIMS

theorem InR.wf {q : IntKind} {x : Int} (h : InR q x) : (Lit.int q x).wf = true := by
  unfold Lit.wf; simp [h.1, h.2]
theorem keyR_int {P : Program} {kt : TypeId} {q : IntKind} (h : P.underlying kt = some (.int q)) : KeyR P kt (kI q) where
  keyed := Maps.int_keyed h
  lit := fun {v k} ⟨hv, hr⟩ => ⟨.int q k, by rw [hv]; exact Maps.keyOf_int_mk h hr.wf⟩
  inj := fun ⟨h1, _⟩ ⟨h2, _⟩ => by subst h1; subst h2; simp
theorem bs_inj {a b : List UInt8} (h : bs a = bs b) : a = b := by have := congrArg ByteArray.toList h; rwa [bs_toList, bs_toList] at this
theorem keyR_str {P : Program} {kt : TypeId} (h : P.underlying kt = some .string) : KeyR P kt kS where
  keyed := Maps.string_keyed h
  lit := fun {v k} ⟨hv, hr⟩ => ⟨.string k, by
    rw [hv]
    have hl : (bs k).size ≤ maxLen := by rw [bs_size]; unfold maxLen; unfold LIMS at hr; omega
    have h3 : (bs k).data.toList = k := rfl
    simp [keyOf, h, mapKey, hl, h3]⟩
  inj := fun ⟨h1, _⟩ ⟨h2, _⟩ => by subst h1; subst h2; constructor <;> intro h <;> simp at h ⊢ <;> first | exact bs_inj h | rw [h]

section
variable {K V : Type} [BEq K] [LawfulBEq K] {KR : Value → K → Prop} {R : Mem → Value → V → Prop} {P : Program} {kt : TypeId} {m m' : Mem} {v : Value} {l : List (K × V)} {Mx : List (Nat × Obj)}

def EnOK (KR : Value → K → Prop) (R : Mem → Value → V → Prop) (m : Mem) : List MapEntry → List (K × V) → Prop
  | [], [] => True
  | e :: es, p :: l => KR e.key p.1 ∧ R m e.val p.2 ∧ EnOK KR R m es l
  | _, _ => False

theorem EnOK.len : ∀ {es : List MapEntry} {l : List (K × V)}, EnOK KR R m es l → es.length = l.length
  | [], [], _ => rfl
  | _ :: _, _ :: _, h => by simp [EnOK.len h.2.2]
  | [], _ :: _, h => h.elim
  | _ :: _, [], h => h.elim
theorem EnOK.up (M : MonoV R) (hm : m.le m') : ∀ {es : List MapEntry} {l : List (K × V)}, EnOK KR R m es l → EnOK KR R m' es l
  | [], [], _ => trivial
  | _ :: _, _ :: _, h => ⟨h.1, M.up hm h.2.1, EnOK.up M hm h.2.2⟩
  | [], _ :: _, h => h.elim
  | _ :: _, [], h => h.elim

/-- v is a map that the call owns (segment Mx); it reads as the pairs l, no key twice. -/
def OMap (KR : Value → K → Prop) (R : Mem → Value → V → Prop) (m : Mem) (v : Value) (l : List (K × V)) (Mx : List (Nat × Obj)) : Prop :=
  ∃ b es clock, v = .map (some b) ∧ Mx = [(b, Obj.map (List.toArray es) clock)] ∧ EnOK KR R m es l ∧ l.length ≤ LIM ∧ l.Pairwise (fun p q => p.1 ≠ q.1)

theorem OMap.up (M : MonoV R) (hm : m.le m') (h : OMap KR R m v l Mx) : OMap KR R m' v l Mx := by
  obtain ⟨b, es, clock, h1, h2, h3, h4, h5⟩ := h
  exact ⟨b, es, clock, h1, h2, h3.up M hm, h4, h5⟩

theorem EnOK.at : ∀ {es : List MapEntry} {l : List (K × V)}, EnOK KR R m es l → ∀ {j : Nat} {e : MapEntry}, es[j]? = some e → ∃ p, l[j]? = some p ∧ KR e.key p.1 ∧ R m e.val p.2
  | [], [], _, j, e, h => by simp at h
  | e :: es, p :: l, h, 0, e', he => by simp at he; subst he; exact ⟨p, rfl, h.1, h.2.1⟩
  | e :: es, p :: l, h, j + 1, e', he => by simpa using EnOK.at h.2.2 (by simpa using he)
  | [], _ :: _, h, _, _, _ => h.elim
  | _ :: _, [], h, _, _, _ => h.elim

theorem mget_at : ∀ {l : List (K × V)} {j : Nat} {p : K × V}, l.Pairwise (fun p q => p.1 ≠ q.1) → l[j]? = some p → mget l p.1 = some p.2
  | [], j, p, _, h => by simp at h
  | q :: l, 0, p, _, h => by simp at h; subst h; simp [mget]
  | q :: l, j + 1, p, hd, h => by
    obtain ⟨h1, h2⟩ := List.pairwise_cons.1 hd
    simp at h
    have hne := h1 p (List.mem_of_getElem? h)
    have ih := mget_at h2 h
    have : (p.1 == q.1) = false := by simp; exact fun e => hne e.symm
    simp only [mget, List.find?_cons, this] at *
    exact ih

theorem mget_none {l : List (K × V)} {k : K} (h : ∀ p ∈ l, p.1 ≠ k) : mget l k = none := by
  unfold mget
  rw [List.find?_eq_none.2]
  · rfl
  · intro p hp; simp; exact fun e => h p hp e.symm

theorem mput_new : ∀ {l : List (K × V)} {k : K} {x : V}, (∀ p ∈ l, p.1 ≠ k) → mput l k x = l ++ [(k, x)]
  | [], _, _, _ => rfl
  | (k', y) :: l, k, x, h => by
    have : (k == k') = false := by simp; exact fun e => h (k', y) (by simp) e.symm
    have ih := mput_new (l := l) (k := k) (x := x) (fun p hp => h p (by simp [hp]))
    simp [mput, this, ih]
theorem mput_old : ∀ {l : List (K × V)} {j : Nat} {p : K × V} {x : V}, l.Pairwise (fun p q => p.1 ≠ q.1) → l[j]? = some p → mput l p.1 x = l.set j (p.1, x)
  | [], j, p, _, _, h => by simp at h
  | q :: l, 0, p, _, _, h => by simp at h; subst h; simp [mput]
  | q :: l, j + 1, p, x, hd, h => by
    obtain ⟨h1, h2⟩ := List.pairwise_cons.1 hd
    simp at h
    have hne := h1 p (List.mem_of_getElem? h)
    have : (p.1 == q.1) = false := by simp; exact fun e => hne e.symm
    simp [mput, this, mput_old h2 h]

/-- What the search for a key says. -/
theorem find_key (H : KeyR P kt KR) {es : List MapEntry} (hE : EnOK KR R m es l) (hd : l.Pairwise (fun p q => p.1 ≠ q.1)) {kv : Value} {k : K} (hk : KR kv k) (w : World) :
    ((Instr.findKey kt kv es).run P w = .ok none w ∧ ∀ p ∈ l, p.1 ≠ k) ∨
    ∃ j e p, (Instr.findKey kt kv es).run P w = .ok (some (j, e.val)) w ∧ es[j]? = some e ∧ l[j]? = some p ∧ p.1 = k ∧ e.key = kv ∧ R m e.val p.2 := by
  obtain ⟨lx, hl⟩ := H.lit hk
  rcases H.keyed.find w hl es (fun e he => by
    obtain ⟨j, hj⟩ := List.mem_iff_getElem?.1 he
    obtain ⟨p, _, h2, _⟩ := hE.at hj
    exact H.lit h2) with ⟨h1, h2⟩ | ⟨j, e, h1, h2, h3⟩
  · refine .inl ⟨h1, fun p hp => ?_⟩
    obtain ⟨j, hj⟩ := List.mem_iff_getElem?.1 hp
    have hlt := (List.getElem?_eq_some_iff.1 hj).1
    have hlt' : j < es.length := by rw [hE.len]; exact hlt
    obtain ⟨q, hq, h4, _⟩ := hE.at (List.getElem?_eq_getElem hlt')
    rw [hj] at hq; cases hq
    exact fun e => h2 es[j] (List.getElem_mem hlt') ((H.inj h4 hk).2 e)
  · obtain ⟨p, hp, h4, h5⟩ := hE.at h2
    exact .inr ⟨j, e, p, h1, h2, hp, (H.inj h4 hk).1 h3, h3, h5⟩

theorem OMap.made {b : Nat} : OMap KR R m (.map (some b)) ([] : List (K × V)) [(b, Obj.map #[] 0)] := ⟨b, [], 0, rfl, rfl, trivial, Nat.zero_le _, List.Pairwise.nil⟩
theorem OMap.cells (h : OMap KR R m v l Mx) : v.cells.toList = [v] := by obtain ⟨b, es, clock, rfl, _⟩ := h; rfl
theorem OMap.one (h : OMap KR R m v l Mx) : v.oneCell' = true := by obtain ⟨b, es, clock, rfl, _⟩ := h; rfl

theorem EnOK.set : ∀ {es : List MapEntry} {l : List (K × V)} {j : Nat} {e : MapEntry} {p : K × V}, EnOK KR R m es l → KR e.key p.1 → R m e.val p.2 → EnOK KR R m (es.set j e) (l.set j p)
  | [], [], _, _, _, _, _, _ => trivial
  | _ :: _, _ :: _, 0, _, _, h, h1, h2 => ⟨h1, h2, h.2.2⟩
  | _ :: _, _ :: _, j + 1, _, _, h, h1, h2 => ⟨h.1, h.2.1, EnOK.set h.2.2 h1 h2⟩
  | [], _ :: _, _, _, _, h, _, _ => h.elim
  | _ :: _, [], _, _, _, h, _, _ => h.elim
theorem EnOK.snoc : ∀ {es : List MapEntry} {l : List (K × V)} {e : MapEntry} {p : K × V}, EnOK KR R m es l → KR e.key p.1 → R m e.val p.2 → EnOK KR R m (es ++ [e]) (l ++ [p])
  | [], [], _, _, _, h1, h2 => ⟨h1, h2, trivial⟩
  | _ :: _, _ :: _, _, _, h, h1, h2 => ⟨h.1, h.2.1, EnOK.snoc h.2.2 h1 h2⟩
  | [], _ :: _, _, _, h, _, _ => h.elim
  | _ :: _, [], _, _, h, _, _ => h.elim

/-- A store into the map. -/
theorem run_mset {u w : World} {S : Segs} {t et : TypeId} (H : KeyR P kt KR) (ht : P.underlying t = some (.map kt et)) (h : OMap KR R m v l Mx) {i : Nat} (hS : S[i]? = some Mx) (ok : Ok u m S w) {kv xv : Value} {k : K} {x : V} (hk : KR kv k) (hx : R m xv x) {l' : List (K × V)} (hl : mset l k x = some l') :
    ∃ w' Mx', (Instr.mapUpdate t v kv xv).run P w = .ok () w' ∧ Ok u m (S.set i Mx') w' ∧ OMap KR R m v l' Mx' := by
  obtain ⟨b, es, clock, rfl, rfl, hE, hlim, hd⟩ := h
  unfold mset at hl
  split at hl
  · rename_i hlt
    simp only [Option.some.injEq] at hl
    subst hl
    obtain ⟨lx, hlx⟩ := H.lit hk
    have hb : w.heap[b]? = some (.map es.toArray clock) := (ok.own (b, .map es.toArray clock) (mem_segAt (k := i) (by simp [segAt, hS]))).1
    have hget : (getObj b).run P w = .ok (.map es.toArray clock) w := by simp [getObj, Sem.run, hb]
    have hchk := H.keyed.check w false hlx
    have setobj : ∀ o', (setObj b o').run P w = .ok () { w with heap := w.heap.setIfInBounds b o' } := fun o' => by simp [setObj, Sem.run, hb]
    have hok : ∀ o', Ok u m (S.set i [(b, o')]) { w with heap := w.heap.setIfInBounds b o' } := by
      intro o'
      refine Ok.setSeg i S _ _ w _ hS (fun T ok' => ok'.setObj rfl rfl rfl ?_ (fun k hk => ?_)) ok
      · have hlt := (Array.getElem?_eq_some_iff.1 hb).1
        simp [hlt]
      · rw [Array.getElem?_setIfInBounds_ne (fun e => hk e.symm)]
    rcases find_key H hE hd hk w with ⟨hf, hnew⟩ | ⟨j, e, p, hf, he, hp, hpk, hek, _⟩
    · refine ⟨_, [(b, .map (es ++ [MapEntry.mk kv xv clock]).toArray (clock + 1))], ?_, hok _, ?_⟩
      · simp only [Instr.mapUpdate, Sem.run_bind, run_underlying ht, Result.andThen_ok, hget, hchk, hf, setobj]
        simp
      · rw [mput_new hnew]
        refine ⟨b, _, _, rfl, rfl, hE.snoc hk hx, by simp; omega, ?_⟩
        refine List.pairwise_append.2 ⟨hd, by simp, fun p hp q hq => ?_⟩
        simp at hq; subst hq
        exact hnew p hp
    · subst hpk
      have hst := H.keyed.stays w hlx
      refine ⟨_, [(b, .map (es.set j { e with key := kv, val := xv }).toArray clock)], ?_, hok _, ?_⟩
      · have hj : ((es.toArray[j]?).map (·.key)).getD kv = kv := by simp [he, hek]
        have hm : es.toArray.modify j (fun e => { e with key := kv, val := xv }) = (es.set j { e with key := kv, val := xv }).toArray := by
          have hlt := (List.getElem?_eq_some_iff.1 he).1
          apply Array.ext'
          simp only [Array.toList_modify]
          apply List.ext_getElem?
          intro r
          by_cases hr : j = r
          · subst hr; simp [he, List.getElem?_set_self hlt]
          · simp [hr, List.getElem?_set_ne hr]
        simp only [Instr.mapUpdate, Sem.run_bind, run_underlying ht, Result.andThen_ok, hget, hchk, hf, hj, hst, hm, setobj]
      · rw [mput_old hd hp]
        refine ⟨b, _, _, rfl, rfl, hE.set hk hx, by simpa using hlim, ?_⟩
        have e1 : ((l.set j (p.1, x)).map (·.1)) = l.map (·.1) := by
          apply List.ext_getElem?
          intro r
          by_cases hr : j = r
          · subst hr
            have hlt := (List.getElem?_eq_some_iff.1 hp).1
            rw [List.map_set, List.getElem?_set_self (by simpa using hlt), List.getElem?_map, hp]; rfl
          · simp [List.getElem?_set_ne hr]
        have h1 : (l.map (·.1)).Pairwise (fun a b => a ≠ b) := by rw [List.pairwise_map]; exact hd
        rw [← e1, List.pairwise_map] at h1
        exact h1
  · cases hl

/-- What is looked up. -/
theorem run_mget {u w : World} {S : Segs} {t et : TypeId} (H : KeyR P kt KR) (ht : P.underlying t = some (.map kt et)) (h : OMap KR R m v l Mx) {i : Nat} (hS : S[i]? = some Mx) (ok : Ok u m S w) {kv : Value} {k : K} (hk : KR kv k) {zv : Value} (hz : ∀ w, (zeroValue et).run P w = .ok zv w) (cm : Bool) :
    (mget l k = none ∧ (Instr.lookup t v kv cm).run P w = .ok (if cm then .tuple #[zv, .bool false] else zv) w) ∨
    ∃ x xv, mget l k = some x ∧ R m xv x ∧ (Instr.lookup t v kv cm).run P w = .ok (if cm then .tuple #[xv, .bool true] else xv) w := by
  obtain ⟨b, es, clock, rfl, rfl, hE, hlim, hd⟩ := h
  obtain ⟨lx, hlx⟩ := H.lit hk
  have hb : w.heap[b]? = some (.map es.toArray clock) := (ok.own (b, .map es.toArray clock) (mem_segAt (k := i) (by simp [segAt, hS]))).1
  have hget : (getObj b).run P w = .ok (.map es.toArray clock) w := by simp [getObj, Sem.run, hb]
  have hchk := H.keyed.check w es.toArray.isEmpty hlx
  rcases find_key H hE hd hk w with ⟨hf, hnew⟩ | ⟨j, e, p, hf, he, hp, hpk, hek, hR⟩
  · refine .inl ⟨mget_none hnew, ?_⟩
    simp only [Instr.lookup, Sem.run_bind, run_underlying ht, Result.andThen_ok, hget, Sem.run_pure, hchk, hf, hz]
  · subst hpk
    refine .inr ⟨p.2, e.val, mget_at hd hp, hR, ?_⟩
    simp only [Instr.lookup, Sem.run_bind, run_underlying ht, Result.andThen_ok, hget, Sem.run_pure, hchk, hf]
end

section
variable {K V : Type} [BEq K] [LawfulBEq K] {KR : Value → K → Prop} {R : Mem → Value → V → Prop} {P : Program} {kt : TypeId} {m : Mem} {v : Value} {l : List (K × V)} {Mx : List (Nat × Obj)}
  {Q : Exit → Act → World → Prop} {n : Nat} {L : List (Nat × Value)} {ol rest : List Oper} {a : Act} {w u : World} {S : Segs} {d : Nat} {ty : TypeId} {pos : String} {after : Array Edge} {g : Option (Nat × Bool)}

theorem l_makeMap {t : TypeId} (KR : Value → K → Prop) (R : Mem → Value → V → Prop) (E : Env n a L) (ok : Ok u m S w) (hg : want ol L g = some true) (hd : Nat.blt d n = true)
    (Kk : ∀ v Mx a' w', Env n a' ((d, v) :: L) → Ok u m (Mx :: S) w' → OMap KR R m v ([] : List (K × V)) Mx → wpList P ol.toArray Q rest a' w') :
    wpList P ol.toArray Q (⟨some d, .makeMap t none, ty, pos, after, g⟩ :: rest) a w := by
  refine l_op (v := .map (some w.heap.size)) (w' := w.alloc (.map #[] 0)) E hg hd ?_ (fun a' E' => Kk _ _ _ _ E' (ok.alloc _) OMap.made)
  simp only [execOp, Instr.makeMap, Option.map_none, Sem.run_bind, Sem.run_pure, run_newObj, Result.andThen_ok]

theorem l_mset {t et : TypeId} {mo ko xo : Operand} {kv xv : Value} {k : K} {x : V} {l' : List (K × V)} {op : Op} (hop : op = .mapUpdate t mo ko xo ∨ op = .insert t mo ko xo) (E : Env n a L) (ok : Ok u m S w) (i : Nat) (H : KeyR P kt KR) (ht : P.underlying t = some (.map kt et)) (h : OMap KR R m v l Mx) (hS : S[i]? = some Mx)
    (hm : ev L mo = some v) (hko : ev L ko = some kv) (hxo : ev L xo = some xv) (hk : KR kv k) (hx : R m xv x) (hl : mset l k x = some l') (hg : want ol L g = some true)
    (Kk : ∀ Mx' w', Ok u m (S.set i Mx') w' → OMap KR R m v l' Mx' → wpList P ol.toArray Q rest a w') :
    wpList P ol.toArray Q (⟨none, op, ty, pos, after, g⟩ :: rest) a w := by
  obtain ⟨w', Mx', hr, ok', h'⟩ := run_mset H ht h hS ok hk hx hl
  refine l_op0 (w' := w') E hg ?_ (Kk _ _ ok' h')
  rcases hop with rfl | rfl <;> simp only [execOp, E.ev hm, E.ev hko, E.ev hxo, Sem.run_bind, hr, Result.andThen_ok, Sem.run_pure]

/-- 'm[k]', what is found or the zero. -/
theorem mlook {t et : TypeId} {mo ko : Operand} {kv zv : Value} {k : K} {zx : V} (ok : Ok u m S w) (i : Nat) (H : KeyR P kt KR) (ht : P.underlying t = some (.map kt et)) (h : OMap KR R m v l Mx) (hS : S[i]? = some Mx)
    (hm : ev L mo = some v) (hko : ev L ko = some kv) (hk : KR kv k) (hz : zeroV P et = some zv) (hzR : R m zv zx) :
    ∃ xv, R m xv ((mget l k).getD zx) ∧ (∀ ty, Yields P (Ok u m S) L (.lookup t mo ko false) ty xv) ∧ ∀ ty, Yields P (Ok u m S) L (.lookup t mo ko true) ty (.tuple [xv, .bool (mget l k).isSome].toArray) := by
  have hzr := zeroV_run hz
  obtain ⟨b, es, clock, hv, hM, hE, hlim, hd⟩ := id h
  -- what is found is the same in every world of this kind
  rcases find_key H hE hd hk w with ⟨_, hnew⟩ | ⟨j, e, p, _, he, hp, hpk, hek, hR⟩
  · have hn := mget_none hnew
    refine ⟨zv, by rw [hn]; exact hzR, fun ty ρ w' dst pos after g E ok' => ?_, fun ty ρ w' dst pos after g E ok' => ?_⟩
    · rcases run_mget H ht h hS ok' hk hzr false with ⟨_, hr⟩ | ⟨x, xv, h1, _⟩
      · simp only [execOp, E hm, E hko, Sem.run_bind, hr, Result.andThen_ok, Sem.run_pure]; rfl
      · rw [hn] at h1; cases h1
    · rcases run_mget H ht h hS ok' hk hzr true with ⟨_, hr⟩ | ⟨x, xv, h1, _⟩
      · simp only [execOp, E hm, E hko, Sem.run_bind, hr, Result.andThen_ok, Sem.run_pure, hn]; rfl
      · rw [hn] at h1; cases h1
  · subst hpk
    have hs := mget_at hd hp
    have run : ∀ w' cm, Ok u m S w' → (Instr.lookup t v kv cm).run P w' = .ok (if cm then .tuple #[e.val, .bool true] else e.val) w' := by
      intro w' cm ok'
      subst hv
      obtain ⟨lx, hlx⟩ := H.lit hk
      have hb : w'.heap[b]? = some (.map es.toArray clock) := (ok'.own (b, .map es.toArray clock) (mem_segAt (k := i) (by simp [segAt, hS, hM]))).1
      have hget : (getObj b).run P w' = .ok (.map es.toArray clock) w' := by simp [getObj, Sem.run, hb]
      have hchk := H.keyed.check w' es.toArray.isEmpty hlx
      rcases find_key H hE hd hk w' with ⟨_, hnew⟩ | ⟨j', e', p', hf', he', hp', hpk', hek', _⟩
      · exact absurd rfl (hnew p (List.mem_of_getElem? hp))
      · have hjj : j' = j := by
          have a1 := (List.getElem?_eq_some_iff.1 hp)
          have a2 := (List.getElem?_eq_some_iff.1 hp')
          obtain ⟨b1, b2⟩ := a1
          obtain ⟨c1, c2⟩ := a2
          rcases Nat.lt_trichotomy j' j with hlt | heq | hgt
          · exact absurd (by rw [c2, b2]; exact hpk') (List.pairwise_iff_getElem.1 hd j' j c1 b1 hlt)
          · exact heq
          · exact absurd (by rw [c2, b2]; exact hpk'.symm) (List.pairwise_iff_getElem.1 hd j j' b1 c1 hgt)
        subst hjj
        rw [he] at he'; cases he'
        simp only [Instr.lookup, Sem.run_bind, run_underlying ht, Result.andThen_ok, hget, Sem.run_pure, hchk, hf']
    refine ⟨e.val, by rw [hs]; exact hR, fun ty ρ w' dst pos after g E ok' => ?_, fun ty ρ w' dst pos after g E ok' => ?_⟩
    · simp only [execOp, E hm, E hko, Sem.run_bind, run w' false ok', Result.andThen_ok, Sem.run_pure]; rfl
    · simp only [execOp, E hm, E hko, Sem.run_bind, run w' true ok', Result.andThen_ok, Sem.run_pure, hs]; rfl
end
end Go.X
namespace Go.X
/-- string(r) of a rune, as bytes. -/
def runeStr (r : Int) : List UInt8 := (Utf8.encode r).data.toList
theorem runeStr_len (r : Int) : (runeStr r).length ≤ LIMS := by
  unfold runeStr Utf8.encode
  dsimp only
  generalize (if Utf8.valid r = true then r.toNat else Utf8.runeError) = c
  split
  · simp [LIMS]
  · split
    · simp [LIMS]
    · split <;> simp [LIMS]
theorem y_runestr {P : Program} {C : World → Prop} {L : List (Nat × Value)} {ty : TypeId} {x : Operand} {k : IntKind} {p : Int} {s d : TypeId} {sd : TypeDesc} (hs : P.underlying s = some sd) (hd : P.underlying d = some .string) (hx : ev L x = some (.int k p)) : Yields P C L (.convert s d x) ty (.string (bs (runeStr p))) := by
  intro ρ w dst pos after g E ok
  have e : bs (runeStr p) = Utf8.encode p := rfl
  simp only [execOp, E hx, convert, Sem.run_bind, run_underlying hs, run_underlying hd, Result.andThen_ok, Conv.intToString, Sem.run_pure, e]
end Go.X
