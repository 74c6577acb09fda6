/- Texts of this proof, put together by pack.py: what its declarations name. -/
import Derived.Test.YtidfofhmnlhfjaaGreatDoorPkD5
import Derived.Test.YtidfofhmnlhfjaaGreatDoorCards
import Derived.Test.YtidfofhmnlhfjaaGreatDoorChecked
import Derived.Test.YtidfofhmnlhfjaaGreatDoorProg
import Derived.Test.YtidfofhmnlhfjaaGreatDoorRows
import Derived.Test.YtidfofhmnlhfjaaGreatDoorTie
set_option linter.unusedVariables false
namespace Go.Proofs.YtidfofhmnlhfjaaGreatDoor
open Go.X
theorem few_true {N : Nat} {l : List Cnd} (S : Cs N l) (h : calquelaw10_few N l = some true) : l.length ≤ 12 ∧ ∀ c ∈ l, calqueref08_Few N c = some true := by
  unfold calquelaw10_few at h
  have hh := iter_list' (body := fun i => calquelaw10_few_b1 N l i) (σ := Unit) (fun _ i => i) l (fun _ x => if (calqueref08_Few N x).getD false then .inl () else .inr (.inr false)) (fun _ => .inl ()) (fun _ k x hk => ?_) (fun _ => ?_) N () S.len
  · rw [hh] at h
    have hr : ∀ (xs : List Cnd), run (σ := Unit) (β := Unit ⊕ Bool) (fun _ x => if (calqueref08_Few N x).getD false then .inl () else .inr (.inr false)) (fun _ => .inl ()) () xs = if xs.all (fun x => (calqueref08_Few N x).getD false) then .inl () else .inr false := by
      intro xs
      induction xs with
      | nil => rfl
      | cons x xs ih =>
        rw [run]
        cases hx : (calqueref08_Few N x).getD false with
        | true => simp only [if_true]; rw [ih, List.all_cons, hx, Bool.true_and]
        | false => simp [hx]
    rw [hr] at h
    cases ha : l.all (fun x => (calqueref08_Few N x).getD false) with
    | false => rw [ha] at h; simp at h
    | true =>
      rw [ha] at h
      simp only [if_true, Option.bind_some, Sum.elim_inl, Option.some.injEq, decide_eq_true_eq] at h
      refine ⟨by omega, fun c hc => ?_⟩
      have := List.all_eq_true.1 ha c hc
      cases hf : calqueref08_Few N c with
      | none => rw [hf] at this; cases this
      | some b => rw [hf] at this; simp only [Option.getD_some] at this; rw [this]
  · obtain ⟨b, hb⟩ := Few_some (S.s x (List.mem_of_getElem? hk))
    unfold calquelaw10_few_b1
    simp only [dltx hk, cond_true, idx_some hk, Option.bind_some, hb]
    cases b <;> rfl
  · unfold calquelaw10_few_b1
    simp only [dnlt, cond_false]
def COk (c : Cnd) : Prop := ∀ l ∈ c, l.length ≤ reachBytes
theorem flat_bound (R : Nat) : ∀ d : Cnd, (∀ l ∈ d, l.length ≤ R) → d.flatten.length ≤ d.length * R
  | [], _ => by simp
  | l :: d, h => by
    have h1 := h l (by simp)
    have h2 := flat_bound R d (fun m hm => h m (by simp [hm]))
    rw [List.flatten_cons, List.length_append, List.length_cons, Nat.add_mul]
    omega
theorem vd_six {c : Cnd} (hv : vd c = true) (h30 : c.length ≤ 30) (hc : COk c) : c.flatten.length ≤ 6 := by
  have e : tot c = (c.flatten.length : Int) := by
    unfold tot
    rw [List.length_flatten]
    induction c with
    | nil => rfl
    | cons l c ih =>
      rw [List.map_cons, List.sum_cons, List.map_cons, List.sum_cons]
      have : (c.map fun l => (l.length : Int)).sum = (((c.map List.length).sum : Nat) : Int) := by
        clear ih hv h30 hc
        induction c with
        | nil => rfl
        | cons l c ih => rw [List.map_cons, List.sum_cons, List.map_cons, List.sum_cons, ih]; omega
      rw [this]
      omega
  have hb : c.flatten.length ≤ 10000000000000000 := by
    have h0 := flat_bound reachBytes c hc
    have h1 := Nat.mul_le_mul_right reachBytes h30
    have h2 : reachBytes ≤ 140737488355328 := by unfold reachBytes; omega
    have h3 := Nat.mul_le_mul_left 30 h2
    exact Nat.le_trans h0 (Nat.le_trans h1 (Nat.le_trans h3 (by decide)))
  unfold vd at hv
  simp only [Bool.and_eq_true, decide_eq_true_eq] at hv
  have h6 := hv.2.2
  rw [e, wrap_of (inR_i64.2 ⟨by omega, by omega⟩)] at h6
  omega
theorem rels_ok {cs : List Cnd} (hv : ∀ c ∈ cs, vd c = true) (h30 : ∀ c ∈ cs, c.length ≤ 30) (hc : ∀ c ∈ cs, COk c) (h10 : cs.length ≤ 10) : Pr (rels cs) ∧ (rels cs).length ≤ 60 := by
  constructor
  · intro r hr
    obtain ⟨c, hc', h⟩ := List.mem_flatMap.1 hr
    obtain ⟨l, hl, h2⟩ := List.mem_flatten.1 h
    exact vd_prp (hv c hc') l hl r h2
  · have key : ∀ ds : List Cnd, (∀ c ∈ ds, c.flatten.length ≤ 6) → (rels ds).length ≤ 6 * ds.length := by
      intro ds
      induction ds with
      | nil => intro _; simp [rels]
      | cons d ds ih =>
        intro h
        have h1 := h d (by simp)
        have h2 := ih (fun c hc => h c (by simp [hc]))
        have e : rels (d :: ds) = d.flatten ++ rels ds := by unfold rels; rw [List.flatMap_cons]
        rw [e, List.length_append, List.length_cons]
        omega
    have := key cs (fun c hc' => vd_six (hv c hc') (h30 c hc') (hc c hc'))
    omega
theorem few_30 {N : Nat} {l : List Cnd} (S : Cs N l) (h : calquelaw10_few N l = some true) : ∀ c ∈ l, c.length ≤ 30 := fun c hc => Few_len (S.s c hc) ((few_true S h).2 c hc)
theorem Dp_of {l : List Relation} {n : Nat} {s : Str} (hn : n ∈ wnums l) (hs : s ∈ fstrs l) : Dp (dd n) s := dd_Dp2 hn hs
theorem hdp_map {cs : List Cnd} (hv : ∀ c ∈ cs, vd c = true) {w f : Str} (d : Dp w f) : (cs.map fun c => hdp c w f) = cs.map fun c => hd (nb w f) c :=
  List.map_congr_left fun c hc => hdp_hd (vd_prp (hv c hc)) d
theorem decide_valid_eq {N : Nat} {l : List Cnd} (S : Cs N l) : decide_valid N l = some (l.all vd && decide (l.length ≤ 10)) := by
  unfold decide_valid
  rw [iter_allL (body := fun s => decide_valid_b1 N l s) vd l (fun k x hk => ?_) ?_ N S.len]
  · have e : decide ((l.length : Int) ≤ 10) = decide (l.length ≤ 10) := decide_eq_decide.2 (by omega)
    rw [e]
    cases l.all vd <;> rfl
  · unfold decide_valid_b1
    simp only [dnlt, cond_false]
  · unfold decide_valid_b1
    simp only [dltx hk, cond_true, idx_some hk, Option.bind_some, Valid_eq (S.s x (List.mem_of_getElem? hk))]
    cases vd x <;> rfl
theorem first_says {p : Int} {cs : List Cnd} {r : Option Str} (F : First Dn (PP p cs) r) {x : Str} (hx : Dn x) (h : PP p cs x = true) : isf r = true ∧ bef x (fd r) = false := by
  cases r with
  | none =>
    have := F.n rfl x hx
    rw [h] at this
    cases this
  | some s => exact ⟨rfl, (F.s s rfl).2.2 x hx h⟩
theorem first_is {p : Int} {cs : List Cnd} {r : Option Str} (F : First Dn (PP p cs) r) (h : isf r = true) : Dn (fd r) ∧ PP p cs (fd r) = true := by
  cases r with
  | none => cases h
  | some s => exact ⟨(F.s s rfl).1, (F.s s rfl).2.1⟩
end Go.Proofs.YtidfofhmnlhfjaaGreatDoor
namespace Go.Proofs.YtidfofhmnlhfjaaGreatDoor
open Go.X
theorem conds_loopd {N : Nat} {cs : List Cnd} {l : List Relation} (S : Sl N l) (W F : List Part) (n : Nat) (s : Str) (O : List Int) (hc : cs.length ≤ 1000) (hO : ∀ (i : Nat) (c : Cnd), cs[i]? = some c → ∃ off : Nat, idx O (i : Int) = some (off : Int) ∧ (∀ j r, c.flatten[j]? = some r → l[off + j]? = some r) ∧ off + c.flatten.length ≤ 60) (hcN : ∀ c ∈ cs, c.length < N) :
    decide_search_1__128 N (some (Classes.mk l W F)) (pw l n) (pf l s) cs O = (decide_Disjoint_1 N (cs.map fun c => hdp c (dd n) s)).bind fun r => some r := by
  have hn := S.n
  unfold decide_search_1__128
  rw [mk_rep hc]
  simp only [Option.bind_some]
  have hh := iter_list (body := fun t => decide_search_1__128_b1 N (some (Classes.mk l W F)) (pw l n) (pf l s) cs O t.1 t.2) (σ := Nat) (fun i k => (k, fill (cs.map fun c => hdp c (dd n) s) false i)) cs (fun i _ => .inl (i + 1)) (fun i => fill (cs.map fun c => hdp c (dd n) s) false i) (fun k i => i = k) (fun i k c hk hi => ?_) (fun i hi => ?_) N 0 (by omega) rfl
  · rw [run_idx, Nat.zero_add, fill_zero, List.length_map] at hh
    have e := fill_all (cs.map fun c => hdp c (dd n) s) false
    rw [List.length_map] at e
    rw [e] at hh
    rw [hh]
    rfl
  · subst hi
    have hx : (cs.map fun c => hdp c (dd n) s)[i]? = some (hdp c (dd n) s) := by rw [List.getElem?_map, hk]; rfl
    have hlt := getlt hk
    obtain ⟨off, h1, h2, h3⟩ := hO i c hk
    constructor
    · show decide_search_1__128_b1 N (some (Classes.mk l W F)) (pw l n) (pf l s) cs O i (fill (cs.map fun c => hdp c (dd n) s) false i) = _
      unfold decide_search_1__128_b1
      simp only [dltx hk, cond_true, idx_some hk, Option.bind_some]
      rw [holds_cond S W F n s h1 h2 (hcN c (List.mem_of_getElem? hk)) h3]
      simp only [Option.bind_some]
      rw [idx_some (fill_here hx), setI_some (by rw [fill_len _ _ (by rw [List.length_map]; omega), List.length_map]; exact hlt)]
      simp only [Option.bind_some]
      rw [fill_set hx]
    · intro s' h
      cases h; rfl
  · subst hi
    show decide_search_1__128_b1 N (some (Classes.mk l W F)) (pw l n) (pf l s) cs O cs.length (fill (cs.map fun c => hdp c (dd n) s) false cs.length) = _
    unfold decide_search_1__128_b1
    simp only [dnlt, cond_false]
def fndd (b : Option Str) : Str := b.getD []
def isfd (b : Option Str) : Bool := b.isSome
theorem first_eqd {N : Nat} {cs : List Cnd} {l : List Relation} (S : Sl N l) (O : List Int) (hc : cs.length ≤ 1000) (hO : ∀ (i : Nat) (c : Cnd), cs[i]? = some c → ∃ off : Nat, idx O (i : Int) = some (off : Int) ∧ (∀ j r, c.flatten[j]? = some r → l[off + j]? = some r) ∧ off + c.flatten.length ≤ 60) (hcN : ∀ c ∈ cs, c.length < N)
    (ws : List Nat) (fs : List Str) (hws : ∀ n ∈ ws, n < 1000) (hfs : ∀ s ∈ fs, s.length ≤ 6) (hwl : ws.length ≤ 1000) (hfl : fs.length ≤ 2000000)
    (P : Str → Bool) (hP : ∀ n ∈ ws, ∀ s ∈ fs, decide_Disjoint_1 N (cs.map fun c => hdp c (dd n) s) = some (P (nb (dd n) s))) :
    decide_classes_first__96 N (some (Classes.mk l (ws.map (pw l)) (fs.map (pf l)))) cs O = some (fndd (fstW P (ws.flatMap fun n => fs.map fun f => nb (dd n) f)), isfd (fstW P (ws.flatMap fun n => fs.map fun f => nb (dd n) f))) := by
  have hn := S.n
  have inner : ∀ n ∈ ws, ∀ b : Option Str, (∀ x, b = some x → x.length ≤ 100) → iter (fun t => decide_classes_first__96_b2 N (some (Classes.mk l (ws.map (pw l)) (fs.map (pf l)))) cs O (pw l n) (Classes.mk l (ws.map (pw l)) (fs.map (pf l))) t.1 t.2.1 t.2.2) N (fndd b, isfd b, 0) = some (fndd ((fs.map fun f => nb (dd n) f).foldl (fst1 P) b), isfd ((fs.map fun f => nb (dd n) f).foldl (fst1 P) b)) := by
    intro n hnm b hb
    have hh := iter_list (body := fun t => decide_classes_first__96_b2 N (some (Classes.mk l (ws.map (pw l)) (fs.map (pf l)))) cs O (pw l n) (Classes.mk l (ws.map (pw l)) (fs.map (pf l))) t.1 t.2.1 t.2.2) (σ := Option Str) (fun b k => (fndd b, isfd b, k)) fs (fun b s => .inl (fst1 P b (nb (dd n) s))) (fun b => (fndd b, isfd b)) (fun _ b => ∀ x, b = some x → x.length ≤ 100) (fun b k s hk hb => ?_) (fun b _ => ?_) N b (by omega) hb
    · rw [hh, run_fold, List.foldl_map]
    · have hsm := List.mem_of_getElem? hk
      have hs6 := hfs s hsm
      have hdl := dd_len 2 n (by have := hws n hnm; omega)
      have hm : (fs.map (pf l))[k]? = some (pf l s) := by rw [List.getElem?_map, hk]; rfl
      have hnbl := nb_small (hws n hnm) hs6
      constructor
      · dsimp only
        unfold decide_classes_first__96_b2
        simp only [dltx hm, cond_true, idx_some hm, Option.bind_some]
        have htx : (bif ((pf l s).text != []) then (cat [46] (pf l s).text).bind fun s86 => (cat (pw l n).text s86).bind fun s88 => some s88 else some (pw l n).text) = some (nb (dd n) s) := by
          rw [show (pf l s).text = s from rfl, show (pw l n).text = dd n from rfl]
          unfold nb
          cases s with
          | nil => simp
          | cons c t =>
            rw [show ((c :: t : Str) != []) = true from rfl, cond_true, cat_some (by simp only [List.length_cons, List.length_nil] at *; omega)]
            simp only [Option.bind_some]
            rw [cat_some (by simp only [List.length_append, List.length_cons, List.length_nil] at *; omega)]
            rfl
        rw [htx]
        simp only [Option.bind_some]
        rw [conds_loopd S _ _ n s O hc hO hcN, hP n hnm s hsm]
        simp only [Option.bind_some]
        cases b with
        | none =>
          rw [fst1_none]
          rw [show isfd none = false from rfl]
          simp only [Bool.not_false, cond_true]
          cases P (nb (dd n) s) <;> rfl
        | some x =>
          rw [fst1_some]
          rw [show isfd (some x) = true from rfl, show fndd (some x) = x from rfl]
          simp only [Bool.not_true, cond_false]
          rw [before_eq (by omega)]
          simp only [Option.bind_some]
          cases bef (nb (dd n) s) x <;> cases P (nb (dd n) s) <;> rfl
      · intro b' h x hx
        simp only [Sum.inl.injEq] at h
        subst h
        rcases fst1_or hx with rfl | hx
        · exact hnbl
        · exact hb x hx
    · dsimp only
      unfold decide_classes_first__96_b2
      rw [List.length_map]
      simp only [dnlt, cond_false]
  have small : ∀ (n : Nat), n < 1000 → ∀ (ss : List Str), (∀ s ∈ ss, s.length ≤ 6) → ∀ b : Option Str, (∀ x, b = some x → x.length ≤ 100) → ∀ x, (ss.map fun f => nb (dd n) f).foldl (fst1 P) b = some x → x.length ≤ 100 := by
    intro n hnm ss
    induction ss with
    | nil => intro _ b hb x hx; exact hb x hx
    | cons s ss ih =>
      intro hs b hb
      refine ih (fun t ht => hs t (by simp [ht])) (fst1 P b (nb (dd n) s)) (fun x hx => ?_)
      rcases fst1_or hx with rfl | hx
      · exact nb_small hnm (hs s (by simp))
      · exact hb x hx
  unfold decide_classes_first__96
  simp only [Option.bind_some]
  have hh := iter_list (body := fun t => decide_classes_first__96_b1 N (some (Classes.mk l (ws.map (pw l)) (fs.map (pf l)))) cs O (Classes.mk l (ws.map (pw l)) (fs.map (pf l))) t.1 t.2.1 t.2.2) (σ := Option Str) (fun b k => (fndd b, isfd b, k)) ws (fun b n => .inl ((fs.map fun f => nb (dd n) f).foldl (fst1 P) b)) (fun b => (fndd b, isfd b)) (fun _ b => ∀ x, b = some x → x.length ≤ 100) (fun b k n hk hb => ?_) (fun b _ => ?_) N none (by omega) (fun x h => by cases h)
  · have e : ∀ (ns : List Nat) (b : Option Str), run (β := Str × Bool) (fun b n => .inl ((fs.map fun f => nb (dd n) f).foldl (fst1 P) b)) (fun b => (fndd b, isfd b)) b ns = (fndd ((ns.flatMap fun n => fs.map fun f => nb (dd n) f).foldl (fst1 P) b), isfd ((ns.flatMap fun n => fs.map fun f => nb (dd n) f).foldl (fst1 P) b)) := by
      intro ns
      induction ns with
      | nil => intro b; rfl
      | cons n ns ih => intro b; rw [run]; simp only; rw [ih, List.flatMap_cons, List.foldl_append]
    rw [e] at hh
    rw [show (([] : Str), false, (0 : Int)) = (fndd none, isfd none, 0) from rfl, hh]
    rfl
  · have hnm := List.mem_of_getElem? hk
    have hm : (ws.map (pw l))[k]? = some (pw l n) := by rw [List.getElem?_map, hk]; rfl
    constructor
    · dsimp only
      unfold decide_classes_first__96_b1
      simp only [dltx hm, cond_true, idx_some hm, Option.bind_some]
      rw [inner n hnm b hb]
      rfl
    · intro b' h
      simp only [Sum.inl.injEq] at h
      subst h
      exact small n (hws n hnm) fs hfs b hb
  · dsimp only
    unfold decide_classes_first__96_b1
    rw [List.length_map]
    simp only [dnlt, cond_false]
theorem search_eqd {N : Nat} {cs : List Cnd} (S : Sl N (rels cs)) (hc : cs.length ≤ 1000) (hcN : ∀ c ∈ cs, c.length < N)
    (P : Str → Bool) (hP : ∀ n ∈ wnums (rels cs), ∀ s ∈ fstrs (rels cs), decide_Disjoint_1 N (cs.map fun c => hdp c (dd n) s) = some (P (nb (dd n) s))) :
    decide_search__62 N cs = some (fndd (fstW P (cands (rels cs))), isfd (fstW P (cands (rels cs)))) := by
  have hn := S.n
  have hl := S.len
  unfold decide_search__62
  rw [mk_rep hc]
  simp only [Option.bind_some]
  have hol : (offs cs 0).length = cs.length := offs_len cs 0
  have hh := iter_list (body := fun t => decide_search__62_b1 N cs t.1 t.2.1 t.2.2) (σ := Nat) (fun i k => (rels (cs.take i), k, fill ((offs cs 0).map fun k : Nat => (k : Int)) 0 i)) cs (fun i _ => .inl (i + 1)) (fun i => (fill ((offs cs 0).map fun k : Nat => (k : Int)) 0 i, rels (cs.take i))) (fun k i => i = k) (fun i k c hk hi => ?_) (fun i hi => ?_) N 0 (by omega) rfl
  · rw [run_idx, Nat.zero_add, fill_zero, List.length_map, hol, List.take_length] at hh
    have e := fill_all ((offs cs 0).map fun k : Nat => (k : Int)) 0
    rw [List.length_map, hol] at e
    rw [e] at hh
    show (iter (fun t => decide_search__62_b1 N cs t.1 t.2.1 t.2.2) N (rels (cs.take 0), 0, List.replicate cs.length 0)).bind _ = _
    rw [hh]
    simp only [Option.bind_some]
    rw [newClasses_eq S, wparts_map, fracs_map]
    simp only [Option.bind_some]
    rw [first_eqd S _ hc (fun i c hi => ?_) hcN (wnums (rels cs)) (fstrs (rels cs)) (fun n hn => wnums_lt hn) (fun s hs => (fstrs_all hs).2) (wparts_len _) (fstrs_len _) P hP]
    · unfold cands
      simp only [Option.bind_some]
    · have ho := offs_at cs 0 i c hi
      refine ⟨_, idx_some (by rw [List.getElem?_map, ho]; rfl), fun j r hj => ?_, ?_⟩
      · rw [Nat.zero_add]
        exact rels_at cs i c hi j r hj
      · have := rels_room cs i c hi
        omega
  · subst hi
    have hlt := getlt hk
    have ho := offs_at cs 0 i c hk
    have hx : ((offs cs 0).map fun k : Nat => (k : Int))[i]? = some (((0 + (rels (cs.take i)).length : Nat)) : Int) := by rw [List.getElem?_map, ho]; rfl
    constructor
    · show decide_search__62_b1 N cs (rels (cs.take i)) i (fill ((offs cs 0).map fun k : Nat => (k : Int)) 0 i) = _
      unfold decide_search__62_b1
      simp only [dltx hk, cond_true, idx_some hk, Option.bind_some]
      have hroom := rels_room cs i c hk
      rw [idx_some (fill_here hx), setI_some (by rw [fill_len _ _ (by rw [List.length_map, hol]; omega), List.length_map, hol]; exact hlt), relations_eq (hcN c (List.mem_of_getElem? hk)) (by omega)]
      simp only [Option.bind_some]
      rw [app_some (by omega)]
      simp only [Option.bind_some]
      rw [Nat.zero_add] at hx
      rw [fill_set hx]
      have e : rels (cs.take (i + 1)) = rels (cs.take i) ++ c.flatten := by
        rw [List.take_add_one, hk]
        unfold rels
        rw [List.flatMap_append]
        simp
      rw [e]
    · intro s' h
      cases h; rfl
  · subst hi
    show decide_search__62_b1 N cs (rels (cs.take cs.length)) cs.length (fill ((offs cs 0).map fun k : Nat => (k : Int)) 0 cs.length) = _
    unfold decide_search__62_b1
    simp only [dnlt, cond_false]
end Go.Proofs.YtidfofhmnlhfjaaGreatDoor
namespace Go.Proofs.YtidfofhmnlhfjaaGreatDoor
open Go.X
theorem valid_ref {N : Nat} {l : List Cnd} (S : Cs N l) : calqueref10_valid N l = some (l.all vd && decide (l.length ≤ 10)) := by
  unfold calqueref10_valid
  rw [iter_allL (body := fun s => calqueref10_valid_b1 N l s) vd l (fun k x hk => ?_) ?_ N S.len]
  · have e : decide ((l.length : Int) ≤ 10) = decide (l.length ≤ 10) := decide_eq_decide.2 (by omega)
    rw [e]
    cases l.all vd <;> rfl
  · unfold calqueref10_valid_b1
    simp only [dnlt, cond_false]
  · unfold calqueref10_valid_b1
    simp only [dltx hk, cond_true, idx_some hk, Option.bind_some, ref_Valid_c (S.s x (List.mem_of_getElem? hk))]
    cases vd x <;> rfl
theorem count_eq {N : Nat} {cs : List Cnd} (S : Cs N cs) (hv : ∀ c ∈ cs, vd c = true) (hc : cs.length ≤ 1000) {x : Str} (hx : x.length ≤ 1000) (hxv : vld x = true) : calquelaw10_count N cs x = some ((cnt (cs.map fun c => hd x c) : Nat) : Int) := by
  unfold calquelaw10_count
  have hh := iter_list (body := fun t => calquelaw10_count_b1 N cs x t.1 t.2) (σ := Nat) (fun n k => ((n : Int), k)) cs (fun n c => .inl (if hd x c then n + 1 else n)) (fun n => .inl (n : Int)) (fun k n => n ≤ k) (fun n k c hk hI => ?_) (fun n hI => ?_) N 0 S.len (Nat.le_refl _)
  · have e : ∀ (xs : List Cnd) (n : Nat), run (σ := Nat) (β := Int ⊕ Int) (fun n c => .inl (if hd x c then n + 1 else n)) (fun n => .inl (n : Int)) n xs = .inl ((n + cnt (xs.map fun c => hd x c) : Nat) : Int) := by
      intro xs
      induction xs with
      | nil => intro n; rfl
      | cons y ys ih =>
        intro n
        rw [run]
        simp only
        rw [ih]
        unfold cnt
        rw [List.map_cons, List.filter_cons]
        cases hd x y <;> simp <;> omega
    rw [e, Nat.zero_add] at hh
    rw [show ((0 : Int), (0 : Int)) = (((0 : Nat) : Int), 0) from rfl, hh]
    rfl
  · have hm := List.mem_of_getElem? hk
    have hlt := getlt hk
    constructor
    · show calquelaw10_count_b1 N cs x (n : Int) k = _
      unfold calquelaw10_count_b1
      simp only [dltx hk, cond_true, idx_some hk, Option.bind_some]
      rw [Holds_eq (S.s c hm) hx]
      unfold hr
      rw [hv c hm, hxv]
      simp only [Bool.and_self, if_true, Option.bind_some]
      have hw : IntKind.wrap .i64 ((n : Int) + 1) = ((n + 1 : Nat) : Int) := by rw [wrap_id (by omega) (by omega)]; omega
      rw [hw]
      cases hd x c <;> rfl
    · intro s' h
      simp only [Sum.inl.injEq] at h
      subst h
      split <;> omega
  · show calquelaw10_count_b1 N cs x (n : Int) cs.length = _
    unfold calquelaw10_count_b1
    simp only [dnlt, cond_false]
theorem guard_ok {N : Nat} {l : List Cnd} (S : Cs N l) (hb : calquelaw10_few N l = some true) (hc : ∀ c ∈ l, COk c) (hv : (l.all vd && decide (l.length ≤ 10)) = true) (hN : 20000000 ≤ N) :
    (∀ c ∈ l, vd c = true) ∧ l.length ≤ 10 ∧ Sl N (rels l) := by
  rw [Bool.and_eq_true, List.all_eq_true, decide_eq_true_eq] at hv
  obtain ⟨h1, h2⟩ := rels_ok hv.1 (few_30 S hb) hc hv.2
  exact ⟨hv.1, hv.2, ⟨h1, h2, hN⟩⟩
end Go.Proofs.YtidfofhmnlhfjaaGreatDoor
namespace Go.Proofs.YtidfofhmnlhfjaaGreatDoor
open Go.X
theorem gather {α β : Type} {body : (List β × Int) → Option ((List β × Int) ⊕ List β)} (xs : List α) (g : α → β) (hl : xs.length ≤ 1000)
    (h1 : ∀ (k : Nat) x (acc : List β), xs[k]? = some x → acc.length ≤ 1000 → body (acc, (k : Int)) = some (.inl (acc ++ [g x], (k : Int) + 1))) (h2 : ∀ acc, body (acc, (xs.length : Int)) = some (.inr acc)) (N : Nat) (hN : xs.length < N) :
    iter body N ([], 0) = some (xs.map g) := by
  have e : ∀ (ys : List α) (acc : List β), run (σ := List β) (β := List β) (fun acc x => .inl (acc ++ [g x])) id acc ys = acc ++ ys.map g := by
    intro ys
    induction ys with
    | nil => intro acc; simp [run]
    | cons y ys ih => intro acc; rw [run]; simp only; rw [ih]; simp
  have hh := iter_list (body := body) (σ := List β) (fun acc k => (acc, k)) xs (fun acc x => .inl (acc ++ [g x])) id (fun k acc => acc.length = k) (fun acc k x hk hI => ?_) (fun acc _ => h2 acc) N [] hN rfl
  · rw [hh, e]; rfl
  · have hlt := getlt hk
    refine ⟨h1 k x acc hk (by omega), fun s' h => ?_⟩
    simp only [Sum.inl.injEq] at h
    subst h
    simp [hI]
def fo {β : Type} : Option β → Unit ⊕ β | some b => .inr b | none => .inl ()
def fi {β : Type} : Option β → Nat → Int ⊕ (Unit ⊕ β) | some b, _ => .inr (.inr b) | none, k => .inl ((k : Int) + 1)
def up {β : Type} (g : Nat → Option β) : Nat → Nat → Option β
  | _, 0 => none
  | k, j + 1 => match g k with | some b => some b | none => up g (k + 1) j
theorem up_some {β : Type} {g : Nat → Option β} : ∀ {j k : Nat} {b : β}, up g k j = some b → ∃ m, k ≤ m ∧ m < k + j ∧ g m = some b
  | 0, _, _, h => by cases h
  | j + 1, k, b, h => by
    rw [up] at h
    cases hg : g k with
    | some c => rw [hg] at h; exact ⟨k, Nat.le_refl _, by omega, by rw [hg]; exact h⟩
    | none =>
      rw [hg] at h
      obtain ⟨m, h1, h2, h3⟩ := up_some h
      exact ⟨m, by omega, by omega, h3⟩
theorem up_none {β : Type} {g : Nat → Option β} : ∀ {j k : Nat}, up g k j = none → ∀ m, k ≤ m → m < k + j → g m = none
  | 0, _, _, m, h1, h2 => by omega
  | j + 1, k, h, m, h1, h2 => by
    rw [up] at h
    cases hg : g k with
    | some c => rw [hg] at h; cases h
    | none =>
      rw [hg] at h
      by_cases e : m = k
      · rw [e]; exact hg
      · exact up_none h m (by omega) (by omega)
theorem iter_up {β : Type} {body : Int → Option (Int ⊕ (Unit ⊕ β))} (n : Nat) (g : Nat → Option β) (h1 : ∀ k : Nat, k < n → body (k : Int) = some (fi (g k) k)) (h2 : body (n : Int) = some (.inr (.inl ()))) :
    ∀ j k N : Nat, k + j = n → j < N → iter body N (k : Int) = some (fo (up g k j)) := by
  intro j
  induction j with
  | zero =>
    intro k N hk hN
    obtain ⟨M, rfl⟩ : ∃ M, N = M + 1 := ⟨N - 1, by omega⟩
    obtain rfl : k = n := by omega
    rw [iter, h2, up]
    rfl
  | succ j ih =>
    intro k N hk hN
    obtain ⟨M, rfl⟩ : ∃ M, N = M + 1 := ⟨N - 1, by omega⟩
    rw [iter, h1 k (by omega), up]
    cases g k with
    | some b => rfl
    | none =>
      simp only [fi]
      rw [show ((k : Int) + 1) = ((k + 1 : Nat) : Int) by omega, ih (k + 1) M (by omega) (by omega)]
theorem disj_fn (N : Nat) (x y : Bool) : decide_Disjoint_1 N ([x, y] : List Bool) = some (gp 2 [x, y]) := by cases x <;> cases y <;> rfl
def rr (a b : Cnd) : Option Str := fstW (PP 2 [a, b]) (cands (rels [a, b]))
structure Two (N : Nat) (a b : Cnd) : Prop where
  c : Cs N [a, b]
  v : ∀ d ∈ [a, b], vd d = true
  s : Sl N (rels [a, b])
theorem Two.of {N : Nat} {l : List Cnd} (S : Cs N l) (hv : ∀ c ∈ l, vd c = true) (h30 : ∀ c ∈ l, c.length ≤ 30) (hc : ∀ c ∈ l, COk c) (hN : 20000000 ≤ N) {a b : Cnd} (ha : a ∈ l) (hb : b ∈ l) : Two N a b := by
  have k : ∀ {p : Cnd → Prop}, (∀ c ∈ l, p c) → ∀ d ∈ [a, b], p d := by
    intro p h d hd'
    simp only [List.mem_cons, List.not_mem_nil, or_false] at hd'
    rcases hd' with rfl | rfl
    · exact h _ ha
    · exact h _ hb
  obtain ⟨h1, h2⟩ := rels_ok (k hv) (k h30) (k hc) (show [a, b].length ≤ 10 by simp)
  exact ⟨⟨S.n, by simp only [List.length_cons, List.length_nil]; omega, k S.s⟩, k hv, ⟨h1, h2, hN⟩⟩
theorem Two.first {N : Nat} {a b : Cnd} (T : Two N a b) : decide_search__62 N [a, b] = some (fd (rr a b), isf (rr a b)) ∧ calqueref10_first N [a, b] 2 = some (fd (rr a b), isf (rr a b)) ∧ First Dn (PP 2 [a, b]) (rr a b) := by
  obtain ⟨b1, b2⟩ := both_first (p := 2) T.s.p T.s.len
  have hcs : ∀ d ∈ [a, b], d.length < N := fun d hd' => (T.c.s d hd').len
  have e1 := search_eqd T.s (by simp) hcs (PP 2 [a, b]) (fun n hn s hs => by
    have d := Dp_of hn hs
    rw [hdp_map T.v d]
    exact disj_fn N (hd (nb (dd n) s) a) (hd (nb (dd n) s) b))
  have e2 := first_ref T.s T.v (fun d hd' => T.c.s d hd') (by simp) hcs 2
  rw [← b1] at e2
  unfold rr
  revert e1 e2 b2
  generalize fstW (PP 2 [a, b]) (cands (rels [a, b])) = r
  intro b2 e1 e2
  exact ⟨e1, e2, b2⟩
def ci (l : List Cnd) (i : Nat) : Cnd := l[i]?.getD []
theorem ci_idx {l : List Cnd} {i : Nat} (h : i < l.length) : idx l (i : Int) = some (ci l i) ∧ ci l i ∈ l := by
  have e : ci l i = l[i] := by unfold ci; rw [List.getElem?_eq_getElem h]; rfl
  exact ⟨by rw [e]; exact idx_some (List.getElem?_eq_getElem h), by rw [e]; exact List.getElem_mem h⟩
def g2 (l : List Cnd) (i j : Nat) : Option (Int × Int × Str × Int) := if isf (rr (ci l i) (ci l j)) then some ((i : Int), (j : Int), fd (rr (ci l i) (ci l j)), 19) else none
def g1 (l : List Cnd) (i : Nat) : Option (Int × Int × Str × Int) := up (g2 l i) (i + 1) (l.length - (i + 1))
def fw : Str := [102, 101, 119]
theorem b3_prog {N : Nat} {l : List Cnd} (rs : List Rule) (hr : rs.length = l.length) {i j : Nat} (hi : i < l.length) (hj : j < l.length) (e : decide_search__62 N [ci l i, ci l j] = some (fd (rr (ci l i) (ci l j)), isf (rr (ci l i) (ci l j)))) :
    decide_Disjoint_b3 N rs l i j = some (fi (g2 l i j) j) := by
  unfold g2
  revert e
  generalize fd (rr (ci l i) (ci l j)) = q
  generalize isf (rr (ci l i) (ci l j)) = b
  intro e
  unfold decide_Disjoint_b3
  rw [hr, dlt hj, cond_true, (ci_idx hi).1, (ci_idx hj).1]
  simp only [Option.bind_some]
  rw [e]
  cases b <;> rfl
theorem b3_ref {N : Nat} {l : List Cnd} {i j : Nat} (hi : i < l.length) (hj : j < l.length) (e : calqueref10_first N [ci l i, ci l j] 2 = some (fd (rr (ci l i) (ci l j)), isf (rr (ci l i) (ci l j)))) :
    calqueref10_Disjoint_b3 N l i j = some (fi (g2 l i j) j) := by
  unfold g2
  revert e
  generalize fd (rr (ci l i) (ci l j)) = q
  generalize isf (rr (ci l i) (ci l j)) = b
  intro e
  unfold calqueref10_Disjoint_b3
  rw [dlt hj, cond_true, (ci_idx hi).1, (ci_idx hj).1]
  simp only [Option.bind_some]
  rw [e]
  cases b <;> rfl
theorem loops_prog {N : Nat} {l : List Cnd} (rs : List Rule) (hr : rs.length = l.length) (hl : l.length < N) (hT : ∀ a ∈ l, ∀ b ∈ l, Two N a b) :
    iter (fun s => decide_Disjoint_b2 N rs l s) N 0 = some (fo (up (g1 l) 0 l.length)) := by
  show iter (fun s => decide_Disjoint_b2 N rs l s) N ((0 : Nat) : Int) = _
  refine iter_up (body := fun s => decide_Disjoint_b2 N rs l s) l.length (g1 l) (fun i hi => ?_) ?_ l.length 0 N (by omega) hl
  · unfold decide_Disjoint_b2
    rw [hr, dlt hi, cond_true]
    have inner := iter_up (body := fun s => decide_Disjoint_b3 N rs l i s) l.length (g2 l i) (fun j hj => ?_) ?_ (l.length - (i + 1)) (i + 1) N (by omega) (by omega)
    · rw [show ((i : Int) + 1) = ((i + 1 : Nat) : Int) by omega, inner]
      unfold g1
      generalize up (g2 l i) (i + 1) (l.length - (i + 1)) = q
      cases q <;> rfl
    · exact b3_prog rs hr hi hj (hT _ (ci_idx hi).2 _ (ci_idx hj).2).first.1
    · unfold decide_Disjoint_b3
      rw [hr, dnlt, cond_false]
  · unfold decide_Disjoint_b2
    rw [hr, dnlt, cond_false]
theorem loops_ref {N : Nat} {l : List Cnd} (hl : l.length < N) (hT : ∀ a ∈ l, ∀ b ∈ l, Two N a b) :
    iter (fun s => calqueref10_Disjoint_b2 N l s) N 0 = some (fo (up (g1 l) 0 l.length)) := by
  show iter (fun s => calqueref10_Disjoint_b2 N l s) N ((0 : Nat) : Int) = _
  refine iter_up (body := fun s => calqueref10_Disjoint_b2 N l s) l.length (g1 l) (fun i hi => ?_) ?_ l.length 0 N (by omega) hl
  · unfold calqueref10_Disjoint_b2
    rw [dlt hi, cond_true]
    have inner := iter_up (body := fun s => calqueref10_Disjoint_b3 N l i s) l.length (g2 l i) (fun j hj => ?_) ?_ (l.length - (i + 1)) (i + 1) N (by omega) (by omega)
    · rw [show ((i : Int) + 1) = ((i + 1 : Nat) : Int) by omega, inner]
      unfold g1
      generalize up (g2 l i) (i + 1) (l.length - (i + 1)) = q
      cases q <;> rfl
    · exact b3_ref  hi hj (hT _ (ci_idx hi).2 _ (ci_idx hj).2).first.2.1
    · unfold calqueref10_Disjoint_b3
      rw [dnlt, cond_false]
  · unfold calqueref10_Disjoint_b2
    rw [dnlt, cond_false]
theorem disj_guards {N : Nat} {l : List Cnd} (S : Cs N l) (rs : List Rule) (hr : rs.map (fun r => r.Cond) = l) (hl : l.length ≤ 1000) :
    decide_Disjoint N rs = (bif !(l.all vd && decide (l.length ≤ 10)) then some (0, 0, [], 1) else (iter (fun s => decide_Disjoint_b2 N rs l s) N 0).bind fun o => Sum.elim (fun _ => some (0, 0, [], 0)) (fun o => some o) o) ∧
    calqueref10_Disjoint N rs = (bif !(l.all vd && decide (l.length ≤ 10)) then some (0, 0, [], 1) else (iter (fun s => calqueref10_Disjoint_b2 N l s) N 0).bind fun o => Sum.elim (fun _ => some (0, 0, [], 0)) (fun o => some o) o) := by
  have hlen : rs.length = l.length := by rw [← hr, List.length_map]
  have S1 := S.len
  constructor
  · unfold decide_Disjoint
    rw [gather (body := fun s => decide_Disjoint_b1 N rs s.1 s.2) rs (fun r => r.Cond) (by omega) (fun k x acc hk ha => ?_) (fun acc => ?_) N (by omega), hr]
    · simp only [Option.bind_some]
      rw [decide_valid_eq S]
      rfl
    · dsimp only
      unfold decide_Disjoint_b1
      simp only [dltx hk, cond_true, idx_some hk, Option.bind_some]
      rw [app_some (by simp only [List.length_cons, List.length_nil]; omega)]
      rfl
    · dsimp only
      unfold decide_Disjoint_b1
      simp only [dnlt, cond_false]
  · unfold calqueref10_Disjoint
    rw [gather (body := fun s => calqueref10_Disjoint_b1 N rs s.1 s.2) rs (fun r => r.Cond) (by omega) (fun k x acc hk ha => ?_) (fun acc => ?_) N (by omega), hr]
    · simp only [Option.bind_some]
      rw [valid_ref S]
      rfl
    · dsimp only
      unfold calqueref10_Disjoint_b1
      simp only [dltx hk, cond_true, idx_some hk, Option.bind_some]
      rw [app_some (by simp only [List.length_cons, List.length_nil]; omega)]
      rfl
    · dsimp only
      unfold calqueref10_Disjoint_b1
      simp only [dnlt, cond_false]
theorem cnt_cons (b : Bool) (bs : List Bool) : cnt (b :: bs) = (if b then 1 else 0) + cnt bs := by
  unfold cnt
  rw [List.filter_cons]
  cases b <;> simp <;> omega
theorem cnt_pos : ∀ {bs : List Bool}, 1 ≤ cnt bs → ∃ j : Nat, bs[j]? = some true
  | [], h => by simp [cnt] at h
  | true :: _, _ => ⟨0, rfl⟩
  | false :: bs, h => by
    rw [cnt_cons] at h
    obtain ⟨j, hj⟩ := cnt_pos (bs := bs) (by simpa using h)
    exact ⟨j + 1, by simpa using hj⟩
theorem cnt_two : ∀ {bs : List Bool}, 2 ≤ cnt bs → ∃ i j : Nat, i < j ∧ bs[i]? = some true ∧ bs[j]? = some true
  | [], h => by simp [cnt] at h
  | true :: bs, h => by
    rw [cnt_cons] at h
    obtain ⟨j, hj⟩ := cnt_pos (bs := bs) (by simp at h; omega)
    exact ⟨0, j + 1, by omega, rfl, by simpa using hj⟩
  | false :: bs, h => by
    rw [cnt_cons] at h
    obtain ⟨i, j, h1, h2, h3⟩ := cnt_two (bs := bs) (by simpa using h)
    exact ⟨i + 1, j + 1, by omega, by simpa using h2, by simpa using h3⟩
theorem PP2 (l : List Cnd) (x : Str) : PP 2 l x = (cnt (l.map fun c => hd x c) == 2) := rfl
theorem decideDisjoint_law (l : List Cnd) (num : Str) (hc : ∀ c ∈ l, COk c) (hnum : num.length ≤ LIMS) : ∃ N, calquelaw10_DecideDisjoint N l num = some true := by
  obtain ⟨N, hNN⟩ : ∃ N, csz l + num.length + l.length + 20006000 ≤ N := ⟨_, Nat.le_refl _⟩
  refine ⟨N, ?_⟩
  have S : Cs N l := Cs.of (by omega)
  have aw : calquelaw10_awake N = some true := by rw [show N = (N - 3000) + 3000 by omega]; exact awake_eq _
  unfold calquelaw10_DecideDisjoint
  rw [aw]
  simp only [Option.bind_some, Bool.not_true, cond_false]
  obtain ⟨b, hb, h12⟩ := few_some S
  rw [hb]
  simp only [Option.bind_some]
  cases b with
  | false => rfl
  | true =>
    have h12 := h12 rfl
    simp only [Bool.not_true, cond_false]
    rw [gather (body := fun s => calquelaw10_DecideDisjoint_b1 N l s.1 s.2) l (fun c => Rule.mk fw c) (by omega) (fun k x acc hk ha => by
        dsimp only
        unfold calquelaw10_DecideDisjoint_b1
        simp only [dltx hk, cond_true, idx_some hk, Option.bind_some]
        rw [app_some (by simp only [List.length_cons, List.length_nil]; omega)]
        rfl) (fun acc => by
        dsimp only
        unfold calquelaw10_DecideDisjoint_b1
        simp only [dnlt, cond_false]) N (by omega)]
    simp only [Option.bind_some]
    have hrs : (l.map fun c => Rule.mk fw c).map (fun r => r.Cond) = l := by rw [List.map_map]; exact List.map_id' l
    obtain ⟨p1, p2⟩ := disj_guards S (l.map fun c => Rule.mk fw c) hrs (by omega)
    rw [p1, p2]
    cases hv : (l.all vd && decide (l.length ≤ 10)) with
    | false => rfl
    | true =>
      simp only [Bool.not_true, cond_false]
      obtain ⟨hv, h10, SL⟩ := guard_ok S hb hc hv (by omega)
      have hT : ∀ a ∈ l, ∀ b ∈ l, Two N a b := fun a ha b hb' => Two.of S hv (few_30 S hb) hc (by omega) ha hb'
      rw [loops_prog (l.map fun c => Rule.mk fw c) (by rw [List.length_map]) S.len hT, loops_ref S.len hT]
      cases hU : up (g1 l) 0 l.length with
      | some q =>
        obtain ⟨i, _, hi, hg⟩ := up_some hU
        obtain ⟨j, hij, hj, hg⟩ := up_some hg
        have hi : i < l.length := by omega
        have hj : j < l.length := by omega
        obtain ⟨x1, x2⟩ := ci_idx hi
        obtain ⟨y1, y2⟩ := ci_idx hj
        have T := hT _ x2 _ y2
        unfold g2 at hg
        cases hf : isf (rr (ci l i) (ci l j)) with
        | false => rw [hf] at hg; cases hg
        | true =>
          rw [hf] at hg
          simp only [if_true, Option.some.injEq] at hg
          subst hg
          obtain ⟨d1, d2⟩ := first_is T.first.2.2 hf
          obtain ⟨c1, c2, c3⟩ := Dn_chr d1
          simp only [fo, Option.bind_some, Sum.elim_inr, bne_self_eq_false, cond_false]
          rw [show ((19 : Int) == 19) = true from rfl, cond_true, x1, y1]
          simp only [Option.bind_some]
          rw [count_eq T.c T.v (by simp) (by omega) c3]
          rw [PP2, beq_iff_eq] at d2
          rw [d2]
          rfl
      | none =>
        simp only [fo, Option.bind_some, Sum.elim_inl, bne_self_eq_false, cond_false]
        rw [show ((0 : Int) == 19) = false from rfl, cond_false]
        rw [Unsigned_eq (N := N) hnum (by omega)]
        simp only [Option.bind_some]
        cases hvn : vld num with
        | false => rfl
        | true =>
          cases hng : neg num with
          | true => rfl
          | false =>
            simp only [Bool.not_false, Bool.and_self, Bool.not_true, cond_false]
            have D := Dn_of hvn hng
            obtain ⟨n1, n2, n3⟩ := Dn_chr D
            rw [count_eq S hv (by omega) (by omega) hvn]
            simp only [Option.bind_some]
            have hle : cnt (l.map fun c => hd num c) ≤ 1 := by
              refine Nat.le_of_not_lt fun hgt => ?_
              obtain ⟨i, j, hij, h1, h2⟩ := cnt_two hgt
              rw [List.getElem?_map, Option.map_eq_some_iff] at h1 h2
              obtain ⟨a, ha, h1⟩ := h1
              obtain ⟨b, hb', h2⟩ := h2
              have hi := getlt ha
              have hj := getlt hb'
              have ea : ci l i = a := by unfold ci; rw [ha]; rfl
              have eb : ci l j = b := by unfold ci; rw [hb']; rfl
              have k1 := up_none hU i (by omega) (by omega)
              have k2 := up_none k1 j (by omega) (by omega)
              unfold g2 at k2
              have T := (hT _ (List.mem_of_getElem? ha) _ (List.mem_of_getElem? hb')).first.2.2
              rw [ea, eb] at k2
              have hp : PP 2 [a, b] num = true := by
                rw [PP2, List.map_cons, List.map_cons, List.map_nil, h1, h2]; rfl
              obtain ⟨m1, m2⟩ := first_says T D hp
              rw [m1] at k2
              cases k2
            rw [decide_eq_true (show ((cnt (l.map fun c => hd num c) : Nat) : Int) ≤ 1 by omega)]
end Go.Proofs.YtidfofhmnlhfjaaGreatDoor
