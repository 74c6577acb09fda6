/- Texts of this proof, put together by pack.py: what its declarations name. -/
import Derived.Test.YtmmioinglmeoiaaPkSp5
import Derived.Test.YtmmioinglmeoiaaChecked
import Derived.Test.YtmmioinglmeoiaaProg
import Derived.Test.YtmmioinglmeoiaaRows
set_option linter.unusedVariables false
namespace Go.Proofs.Ytmmioinglmeoiaa
open Go.X
theorem drop_app {s a b : Str} {p : Nat} (h : s.drop p = a ++ b) : s.drop (p + a.length) = b := by
  rw [← List.drop_drop, h, List.drop_left]
theorem neC {c : UInt8} {k : Nat} (hk : k < 256) : ((c.toNat : Int) != (k : Int)) = !decide (c = UInt8.ofNat k) := by
  by_cases h : c = UInt8.ofNat k
  · subst h; rw [ofNat_toNat hk]; simp
  · have : c.toNat ≠ k := fun e => h (by rw [← e]; simp)
    simp [h]; omega
theorem eqC {c : UInt8} {k : Nat} (hk : k < 256) : ((c.toNat : Int) == (k : Int)) = decide (c = UInt8.ofNat k) := by
  have := neC (c := c) hk
  unfold bne at this
  cases h : ((c.toNat : Int) == (k : Int)) <;> rw [h] at this <;> simp at this <;> simp [this]
theorem head_ne {d : UInt8} {u : Str} {c : UInt8} {t : Str} (h : ([d] : Str).isPrefixOf u = false) (e : u = c :: t) : c ≠ d := by
  rw [e, pre1, beq_eq_false_iff_ne] at h
  exact fun g => h g.symm
theorem esc_hd (br : Bool) (c : Nat) (t : Str) : ∃ d u, esc br c ++ t = d :: u :=
  esc_cases (fun w => ∃ d u, w ++ t = d :: u) (fun _ _ => ⟨_, _, rfl⟩) ⟨_, _, rfl⟩ (fun _ _ _ _ _ => ⟨_, _, rfl⟩)
theorem rtext_back {N : Nat} {s : Str} {p : Nat} {w t : Str} (hs : s.length ≤ 1000000) (h : s.drop p = 34 :: (escs w ++ 34 :: t)) (hw : w.length ≤ 1000) (hN : 2000 ≤ N) :
    calqueref44_readText N s p = some (Item.mk w [] false 0 0, ((p + (escs w).length + 2 : Nat) : Int)) := by
  have hl := dlen h (by simp)
  simp only [List.length_append, List.length_cons] at hl
  unfold calqueref44_readText
  rw [show (1 : Int) = ((1 : Nat) : Int) from rfl, wr (by omega)]
  have h1 : s.drop (p + 1) = escs w ++ 34 :: t := drop_app (a := [34]) h
  have hd : ∀ k, s.drop (p + 1 + (escs (w.take k)).length) = escs (w.drop k) ++ 34 :: t := fun k => by
    refine drop_app ?_
    rw [h1, ← List.append_assoc]
    congr 1
    unfold escs
    rw [← List.flatMap_append, List.take_append_drop]
  have hle : ∀ k, (escs (w.take k)).length ≤ 4 * w.length := fun k => by
    have := take_le (fun c : UInt8 => esc false c.toNat) 4 w k (fun c _ => esc_len _ _)
    unfold escs; omega
  have hloop : iter (fun a : Int × List Int => calqueref44_readText_b1 N s a.1 a.2) N (((p + 1 : Nat) : Int), []) = some (((p + 1 + (escs w).length : Nat) : Int), ints w) := iter_at (body := fun a : Int × List Int => calqueref44_readText_b1 N s a.1 a.2) (fun k : Nat => (((p + 1 + (escs (w.take k)).length : Nat) : Int), ints (w.take k))) w.length (((p + 1 + (escs w).length : Nat) : Int), ints w) rfl (fun k hk => by
    obtain ⟨c, hc⟩ := at_lt hk
    have hr : escs (w.drop k) ++ 34 :: t = esc false c.toNat ++ (escs (w.drop (k + 1)) ++ 34 :: t) := by
      unfold escs; rw [drop1 hc, List.append_assoc]
    have hq := hd k
    rw [hr] at hq
    have hne := dlen hq esc_app_ne
    have := hle k
    obtain ⟨d, u, e⟩ := esc_hd false c.toNat (escs (w.drop (k + 1)) ++ 34 :: t)
    have hdn := head_ne (esc_head (br := false) (u8lt c) 34 _ (by decide) (by decide)) e
    have hi : idx s ((p + 1 + (escs (w.take k)).length : Nat) : Int) = some d := by
      have := dgx hq 0 (c := d) (by rw [e]; rfl)
      exact this
    unfold calqueref44_readText_b1
    rw [e] at hne
    simp only [List.length_cons] at hne
    rw [decide_eq_true (by omega), decide_eq_true (by omega)]
    simp only [cond_true, hi, Option.bind_some]
    rw [show (34 : Int) = ((34 : Nat) : Int) from rfl, neC (by decide)]
    simp only [show decide (d = UInt8.ofNat 34) = false from decide_eq_false hdn, Bool.not_false, cond_true]
    rw [rb_esc hs (u8lt c) hq]
    simp only [Option.bind_some]
    rw [app1 (by simp [ints]; omega)]
    have e1 : ([(c.toNat : Int)] : List Int) = ints [c] := rfl
    have e2 : escs (w.take (k + 1)) = escs (w.take k) ++ esc false c.toNat := by
      unfold escs; rw [← take_flat (fun c : UInt8 => esc false c.toNat) hc]
    rw [e1, ints_app, take1 hc, e2]
    simp only [Option.bind_some, List.length_append, Nat.add_assoc]) (by
    have hq := hd w.length
    rw [List.drop_length] at hq
    have hq' : s.drop (p + 1 + (escs (w.take w.length)).length) = 34 :: t := hq
    have hne := dlen hq' (by simp)
    simp only [List.length_cons] at hne
    have hi : idx s ((p + 1 + (escs (w.take w.length)).length : Nat) : Int) = some 34 := dgx hq' 0 rfl
    unfold calqueref44_readText_b1
    simp only
    rw [decide_eq_true (by omega), decide_eq_true (by omega)]
    simp only [cond_true, hi, Option.bind_some]
    rw [List.take_length]
    rfl) N (by omega)
  rw [hloop]
  simp only [Option.bind_some]
  rw [decide_eq_false (by omega), decide_eq_false (by omega), wr (by omega)]
  simp only [cond_false, bytes_bld]
  rw [show p + 1 + (escs w).length + 1 = p + (escs w).length + 2 by omega]
theorem rcls_back {N : Nat} {s : Str} {p : Nat} {l : List Range} {t : Str} {n : Bool} {body : Int × Item → Option ((Int × Item) ⊕ (Item × Int))} (hb : body = (fun a => calqueref44_readClass_b1 N s a.1 a.2)) (hs : s.length ≤ 1000000) (hl : ∀ g ∈ l, InR .u8 g.From ∧ InR .u8 g.To) (h : s.drop p = l.flatMap rangeT ++ 93 :: t) (hN : l.length < N) (hlen : l.length ≤ 1000) :
    iter body N ((p : Int), Item.mk [] [] n 0 0) = some (Item.mk [] l n 0 0, ((p + (l.flatMap rangeT).length : Nat) : Int)) := by
  subst hb
  have hsl := dlen h (by simp)
  simp only [List.length_append, List.length_cons] at hsl
  have hd : ∀ k, s.drop (p + ((l.take k).flatMap rangeT).length) = (l.drop k).flatMap rangeT ++ 93 :: t := fun k => by
    refine drop_app ?_
    rw [h, ← List.append_assoc, ← List.flatMap_append, List.take_append_drop]
  have hle : ∀ k, ((l.take k).flatMap rangeT).length ≤ 9 * l.length := fun k => by
    have := take_le rangeT 9 l k (fun g _ => rangeT_len g)
    omega
  refine iter_at (body := fun a : Int × Item => calqueref44_readClass_b1 N s a.1 a.2) (fun k : Nat => (((p + ((l.take k).flatMap rangeT).length : Nat) : Int), Item.mk [] (l.take k) n 0 0)) l.length _ (by simp) (fun k hk => ?_) ?_ N hN
  · obtain ⟨g, hg⟩ := at_lt hk
    have hgm := List.mem_of_getElem? hg
    obtain ⟨f, hf1, hf2, hf3⟩ := inr8 (hl g hgm).1
    obtain ⟨z, hz1, hz2, hz3⟩ := inr8 (hl g hgm).2
    have hq := hd k
    rw [drop1 hg, List.append_assoc] at hq
    have hh := rangeT_head g 93 ((l.drop (k + 1)).flatMap rangeT ++ 93 :: t) (hl g hgm).1 (by decide)
    have e9 : ((l.take (k + 1)).flatMap rangeT).length = ((l.take k).flatMap rangeT).length + (rangeT g).length := by
      rw [← take_flat rangeT hg, List.length_append]
    rw [e9]
    generalize hrest : (l.drop (k + 1)).flatMap rangeT ++ 93 :: t = rest at hh hq
    have hrest0 : rest ≠ [] := by rw [← hrest]; simp
    have hrest1 : ([45] : Str).isPrefixOf rest = false := by
      rw [← hrest]
      by_cases h0 : l.drop (k + 1) = []
      · rw [h0]; rfl
      · exact ranges_head _ _ (fun g hg => hl g (List.mem_of_mem_drop hg)) h0 45 (by decide)
    have hlk := hle k
    generalize hP : p + ((l.take k).flatMap rangeT).length = P at hq
    have hq0 : rangeT g ++ rest = esc true f ++ ((if g.To = g.From then [] else 45 :: esc true z) ++ rest) := by
      unfold rangeT; rw [hf3, hz3]; simp
    have hqe := hq
    rw [hq0] at hqe
    have hne := dlen hqe esc_app_ne
    obtain ⟨d, u, e⟩ := esc_hd true f ((if g.To = g.From then [] else 45 :: esc true z) ++ rest)
    have hdn := head_ne hh (hq0.trans e)
    have hi : idx s (P : Int) = some d := dgx hqe 0 (c := d) (by rw [e]; rfl)
    have hpos : 0 < (esc true f ++ ((if g.To = g.From then [] else 45 :: esc true z) ++ rest)).length := List.length_pos_iff.2 esc_app_ne
    unfold calqueref44_readClass_b1
    rw [decide_eq_true (by omega), decide_eq_true (by omega)]
    simp only [cond_true, hi, Option.bind_some]
    rw [show (93 : Int) = ((93 : Nat) : Int) from rfl, neC (by decide)]
    simp only [show decide (d = UInt8.ofNat 93) = false from decide_eq_false hdn, Bool.not_false, cond_true]
    rw [rb_esc hs hf2 hqe]
    simp only [Option.bind_some]
    have hq2 := drop_app hqe
    rw [decide_eq_true (show ((P + (esc true f).length : Nat) : Int) ≥ 0 by omega)]
    simp only [cond_true]
    by_cases he : g.To = g.From
    · rw [if_pos he, List.nil_append] at hq2
      have hrl : (rangeT g).length = (esc true f).length := by unfold rangeT; rw [if_pos he, hf3, List.append_nil]
      have hne2 := dlen hq2 hrest0
      obtain ⟨d2, u2, e2⟩ : ∃ d u, rest = d :: u := by
        cases hr : rest with
        | nil => exact absurd hr hrest0
        | cons d u => exact ⟨d, u, rfl⟩
      have hd2 := head_ne hrest1 e2
      have hi2 : idx s ((P + (esc true f).length : Nat) : Int) = some d2 := dgx hq2 0 (c := d2) (by rw [e2]; rfl)
      have hrp := List.length_pos_iff.2 hrest0
      rw [decide_eq_true (by omega)]
      simp only [cond_true, hi2, Option.bind_some]
      rw [show (45 : Int) = ((45 : Nat) : Int) from rfl, eqC (by decide)]
      simp only [show decide (d2 = UInt8.ofNat 45) = false from decide_eq_false hd2, cond_false, Option.bind_some]
      rw [← hf1]
      have e5 : (Range.mk g.From g.From) = g := by cases g; simp only at he; rw [he]
      rw [e5, app1 (by simp; omega), take1 hg, hrl]
      simp only [Option.bind_some]
      rw [show p + (((l.take k).flatMap rangeT).length + (esc true f).length) = P + (esc true f).length by omega]
    · rw [if_neg he] at hq2
      have hrl : (rangeT g).length = (esc true f).length + (1 + (esc true z).length) := by unfold rangeT; rw [if_neg he, hf3, hz3]; simp; omega
      have hq3 : s.drop (P + (esc true f).length) = 45 :: (esc true z ++ rest) := hq2
      have hne2 := dlen hq3 (by simp)
      have hi2 : idx s ((P + (esc true f).length : Nat) : Int) = some 45 := dgx hq3 0 rfl
      have hq4 : s.drop (P + (esc true f).length + 1) = esc true z ++ rest := drop_app (a := [45]) hq3
      simp only [List.length_cons] at hne2
      rw [decide_eq_true (by omega)]
      have e45 : (((45 : UInt8).toNat : Int) == 45) = true := rfl
      simp only [cond_true, hi2, Option.bind_some, e45]
      rw [show ((P + (esc true f).length : Nat) : Int) + 1 = ((P + (esc true f).length + 1 : Nat) : Int) by omega, rb_esc hs hz2 hq4]
      simp only [Option.bind_some]
      rw [← hf1, ← hz1]
      rw [app1 (by simp; omega), take1 hg, hrl]
      simp only [Option.bind_some]
      rw [show p + (((l.take k).flatMap rangeT).length + ((esc true f).length + (1 + (esc true z).length))) = P + (esc true f).length + 1 + (esc true z).length by omega]
  · have hq := hd l.length
    rw [List.drop_length, List.take_length] at hq
    have hq' : s.drop (p + (l.flatMap rangeT).length) = 93 :: t := hq
    have hne := dlen hq' (by simp)
    simp only [List.length_cons] at hne
    have hi : idx s ((p + (l.flatMap rangeT).length : Nat) : Int) = some 93 := dgx hq' 0 rfl
    unfold calqueref44_readClass_b1
    simp only [List.take_length]
    rw [decide_eq_true (by omega), decide_eq_true (by omega)]
    simp only [cond_true, hi, Option.bind_some]
    rfl
theorem rclass_back {N : Nat} {s : Str} {p : Nat} {l : List Range} {t : Str} {n : Bool} (hs : s.length ≤ 1000000) (hl : ∀ g ∈ l, InR .u8 g.From ∧ InR .u8 g.To) (h0 : l ≠ []) (h : s.drop p = 91 :: ((if n then [94] else []) ++ (l.flatMap rangeT ++ 93 :: t))) (hN : l.length < N) (hlen : l.length ≤ 1000) :
    calqueref44_readClass N s p = some (Item.mk [] l n 0 0, ((p + (91 :: ((if n then [94] else []) ++ (l.flatMap rangeT ++ [93]))).length : Nat) : Int)) := by
  have hsl := dlen h (by simp)
  simp only [List.length_append, List.length_cons] at hsl
  unfold calqueref44_readClass
  rw [show (1 : Int) = ((1 : Nat) : Int) from rfl, wr (by omega), decide_eq_true (by omega)]
  have h1 : s.drop (p + 1) = (if n then [94] else []) ++ (l.flatMap rangeT ++ 93 :: t) := drop_app (a := [91]) h
  cases n with
  | true =>
    simp only [if_true] at h1 ⊢
    have h2 : s.drop (p + 1 + 1) = l.flatMap rangeT ++ 93 :: t := drop_app (a := [94]) h1
    have hi : idx s ((p + 1 : Nat) : Int) = some 94 := dgx h1 0 rfl
    have e94 : (((94 : UInt8).toNat : Int) == 94) = true := rfl
    simp only [cond_true, hi, Option.bind_some, e94]
    rw [ad, rcls_back rfl hs hl h2 hN hlen]
    have hq := dlen h2 (by simp)
    simp only [List.length_append, List.length_cons] at hq
    simp only [Option.bind_some]
    rw [decide_eq_false (by omega), decide_eq_false (by omega), wr (by omega)]
    simp only [cond_false, List.length_cons, List.length_append, List.length_nil]
    rw [show p + 1 + 1 + (l.flatMap rangeT).length + 1 = p + (0 + 1 + ((l.flatMap rangeT).length + (0 + 1)) + 1) by omega]
  | false =>
    simp only [Bool.false_eq_true, if_false, List.nil_append] at h1 ⊢
    have hne : l.flatMap rangeT ++ 93 :: t ≠ [] := by simp
    obtain ⟨d, u, e⟩ : ∃ d u, l.flatMap rangeT ++ 93 :: t = d :: u := by
      cases hr : l.flatMap rangeT ++ 93 :: t with
      | nil => exact absurd hr hne
      | cons d u => exact ⟨d, u, rfl⟩
    have hd := head_ne (ranges_head l (93 :: t) hl h0 94 (by decide)) e
    have hi : idx s ((p + 1 : Nat) : Int) = some d := dgx h1 0 (by rw [e]; rfl)
    simp only [cond_true, hi, Option.bind_some]
    rw [show (94 : Int) = ((94 : Nat) : Int) from rfl, eqC (by decide)]
    simp only [show decide (d = UInt8.ofNat 94) = false from decide_eq_false hd, cond_false, Option.bind_some]
    rw [rcls_back rfl hs hl h1 hN hlen]
    have hq := dlen h1 hne
    simp only [List.length_append, List.length_cons] at hq
    simp only [Option.bind_some]
    rw [decide_eq_false (by omega), decide_eq_false (by omega), wr (by omega)]
    simp only [cond_false, List.length_cons, List.length_append, List.length_nil]
    rw [show p + 1 + (l.flatMap rangeT).length + 1 = p + ((l.flatMap rangeT).length + (0 + 1) + 1) by omega]
theorem marked_back {N : Nat} {s : Str} {p : Nat} {T : Str} {R : List Range} {n : Bool} {le mo : Int} {t : Str} (hm : markOk (Item.mk T R n le mo)) (h : s.drop p = markT (Item.mk T R n le mo) ++ t) (ht : Behind t) (hp : p ≤ s.length) :
    marked N s ((p : Int), Item.mk T R n 0 0) = some (Item.mk T R n le mo, ((p + (markT (Item.mk T R n le mo)).length : Nat) : Int)) := by
  obtain ⟨h1, h2⟩ := hm
  simp only at h1 h2
  unfold marked
  have e1 : decide ((p : Int) ≥ 0) = true := decide_eq_true (by omega)
  have c63 : (((63 : UInt8).toNat : Int) == 63) = true := rfl
  have c42 : (((42 : UInt8).toNat : Int) == 63) = false := rfl
  have c42' : (((42 : UInt8).toNat : Int) == 42) = true := rfl
  have c43 : (((43 : UInt8).toNat : Int) == 63) = false := rfl
  have c43' : (((43 : UInt8).toNat : Int) == 42) = false := rfl
  have c43'' : (((43 : UInt8).toNat : Int) == 43) = true := rfl
  have d1 : (((32 : UInt8).toNat : Int) == 63) = false := rfl
  have d2 : (((32 : UInt8).toNat : Int) == 42) = false := rfl
  have d3 : (((32 : UInt8).toNat : Int) == 43) = false := rfl
  have one : ∀ (d : UInt8), markT (Item.mk T R n le mo) = [d] → s.drop p = d :: t ∧ idx s (p : Int) = some d ∧ decide ((p : Int) < (s.length : Int)) = true := fun d hd => by
    rw [hd] at h
    have hl := dlen h (by simp)
    simp only [List.length_append, List.length_cons, List.length_nil] at hl
    exact ⟨h, dgx h 0 rfl, decide_eq_true (by omega)⟩
  rcases h1 with rfl | rfl <;> rcases h2 with rfl | rfl
  · have hmt : markT (Item.mk T R n 1 1) = [] := rfl
    rw [hmt] at h ⊢
    simp only [e1, cond_true]
    rcases ht with rfl | ⟨u, rfl⟩
    · have : s.length ≤ p := by simpa using h
      rw [decide_eq_false (by omega)]
      rfl
    · have hl := dlen h (by simp)
      simp only [List.nil_append, List.length_cons] at hl
      have hi : idx s (p : Int) = some 32 := dgx h 0 rfl
      rw [decide_eq_true (by omega)]
      simp only [cond_true, hi, Option.bind_some, d1, d2, d3, cond_false]
      rfl
  · obtain ⟨g1, g2, g3⟩ := one 43 rfl
    simp only [e1, g3, cond_true, g2, Option.bind_some, c43, c43', c43'', cond_false]
    rfl
  · obtain ⟨g1, g2, g3⟩ := one 63 rfl
    simp only [e1, g3, cond_true, g2, Option.bind_some, c63]
    rfl
  · obtain ⟨g1, g2, g3⟩ := one 42 rfl
    simp only [e1, g3, cond_true, g2, Option.bind_some, c42, c42', cond_false]
    rfl
theorem ritem_back {N : Nat} {s : Str} {p : Nat} {x : Item} {t : Str} (hs : s.length ≤ 1000000) (h : ItP x) (hb : InB x) (hd : s.drop p = itemT x ++ t) (ht : Behind t) (hN : 2000 ≤ N) :
    calqueref44_readItem N s p = some (x, ((p + (itemT x).length : Nat) : Int)) := by
  obtain ⟨hm, h⟩ := h
  obtain ⟨T, R, n, le, mo⟩ := x
  obtain ⟨d, u, e4, e5⟩ := itemT_head (Item.mk T R n le mo) t
  have hl := dlen hd (by rw [e4]; simp)
  have hpos : 0 < (itemT (Item.mk T R n le mo) ++ t).length := by rw [e4]; simp
  have hi : idx s (p : Int) = some d := dgx hd 0 (by rw [e4]; rfl)
  rw [readItem_eq (by omega) hi]
  by_cases h0 : T = []
  · subst h0
    simp only [if_pos] at h
    have hR : R ≠ [] := by intro e; subst e; simp at h
    have eb : bodyT (Item.mk [] R n le mo) = 91 :: ((if n then [94] else []) ++ (R.flatMap rangeT ++ [93])) := by simp [bodyT]
    have hd1 : s.drop p = 91 :: ((if n then [94] else []) ++ (R.flatMap rangeT ++ 93 :: (markT (Item.mk [] R n le mo) ++ t))) := by
      rw [hd]; unfold itemT; rw [eb]; simp
    have hd2 : s.drop p = bodyT (Item.mk [] R n le mo) ++ (markT (Item.mk [] R n le mo) ++ t) := by
      rw [hd]; unfold itemT; simp
    obtain rfl : d = 91 := by
      have := hd1.symm.trans (hd.trans e4)
      injection this with g _
      exact g.symm
    have c1 : (((91 : UInt8).toNat : Int) == 34) = false := rfl
    have c2 : (((91 : UInt8).toNat : Int) == 91) = true := rfl
    simp only [c1, c2, cond_false, cond_true]
    rw [rclass_back (l := R) hs hb hR hd1 (by omega) (by omega)]
    simp only [Option.bind_some]
    rw [← eb]
    have hd3 := drop_app hd2
    have hle : (bodyT (Item.mk [] R n le mo)).length ≤ (itemT (Item.mk [] R n le mo) ++ t).length := by unfold itemT; simp only [List.length_append]; omega
    rw [marked_back hm hd3 ht (by omega)]
    unfold itemT
    rw [List.length_append, Nat.add_assoc]
  · simp only [if_neg h0] at h
    obtain ⟨h1, rfl, rfl⟩ := h
    have eb : bodyT (Item.mk T [] false le mo) = 34 :: (escs T ++ [34]) := by simp [bodyT, h0, escs]
    have hd1 : s.drop p = 34 :: (escs T ++ 34 :: (markT (Item.mk T [] false le mo) ++ t)) := by
      rw [hd]; unfold itemT; rw [eb]; simp
    have hd2 : s.drop p = bodyT (Item.mk T [] false le mo) ++ (markT (Item.mk T [] false le mo) ++ t) := by
      rw [hd]; unfold itemT; simp
    obtain rfl : d = 34 := by
      have := hd1.symm.trans (hd.trans e4)
      injection this with g _
      exact g.symm
    have c1 : (((34 : UInt8).toNat : Int) == 34) = true := rfl
    simp only [c1, cond_true]
    rw [rtext_back hs hd1 (by omega) hN]
    simp only [Option.bind_some]
    have hd3 := drop_app hd2
    have hbl : (bodyT (Item.mk T [] false le mo)).length = (escs T).length + 2 := by rw [eb]; simp
    have hle : (bodyT (Item.mk T [] false le mo)).length ≤ (itemT (Item.mk T [] false le mo) ++ t).length := by unfold itemT; simp only [List.length_append]; omega
    rw [hbl] at hd3
    rw [show p + (escs T).length + 2 = p + ((escs T).length + 2) by omega, marked_back hm hd3 ht (by omega)]
    unfold itemT
    rw [List.length_append, hbl, Nat.add_assoc]
def HC (L : Nat) (r : Rule) : Prop := r.Kind.length ≤ L ∧ r.Next.length ≤ L ∧ r.Items.length ≤ L ∧ ∀ x ∈ r.Items, IB L x
theorem HC.sz {L N : Nat} {r : Rule} (h : HC L r) (hN : L + 100 ≤ N) : SzR N r := by
  obtain ⟨h1, h2, h3, h4⟩ := h
  refine ⟨by omega, by omega, by omega, fun x hx => ?_⟩
  obtain ⟨g1, g2, _⟩ := h4 x hx
  exact ⟨by omega, by omega⟩
theorem kind_loop {N : Nat} {s : Str} (hN : s.length < N) : ∃ m : Nat, iter (fun a => calqueref44_readRule_b1 N s a) N 0 = some (m : Int) ∧ m ≤ s.length := by
  obtain ⟨b, h1, m, h2, h3⟩ := iter_indE (body := fun a => calqueref44_readRule_b1 N s a) (fun i a => a = (i : Int)) s.length (fun b => ∃ m : Nat, b = (m : Int) ∧ m ≤ s.length) (fun i a hi ha => by
    subst ha
    obtain ⟨c, hc⟩ := at_lt hi
    simp only [calqueref44_readRule_b1, dk hi, cond_true, ixg hc, Option.bind_some]
    cases ((c.toNat : Int) != 32) with
    | true => exact .inl ⟨_, rfl, by omega⟩
    | false => exact .inr ⟨_, rfl, i, rfl, by omega⟩) (fun a ha => by
    subst ha
    exact ⟨(s.length : Int), by simp only [calqueref44_readRule_b1, dn, cond_false], s.length, rfl, Nat.le_refl _⟩) N 0 hN rfl
  exact ⟨m, by rw [h1, h2], h3⟩
theorem kind_back {N : Nat} {k t : Str} (hk : (32 : UInt8) ∉ k) (hN : (k ++ 32 :: t).length < N) : iter (fun a => calqueref44_readRule_b1 N (k ++ 32 :: t) a) N 0 = some (k.length : Int) := by
  refine iter_at (fun i : Nat => (i : Int)) k.length _ rfl (fun i hi => ?_) ?_ N (by simp at hN; omega)
  · obtain ⟨c, hc⟩ := at_lt hi
    have hc' : (k ++ 32 :: t)[i]? = some c := by rw [List.getElem?_append_left hi, hc]
    have hne : c ≠ 32 := fun e => hk (by rw [← e]; exact List.mem_of_getElem? hc)
    simp only [calqueref44_readRule_b1, ixg hc', Option.bind_some]
    rw [decide_eq_true (by simp; omega), show (32 : Int) = ((32 : Nat) : Int) from rfl, neC (by decide)]
    simp only [show decide (c = UInt8.ofNat 32) = false from decide_eq_false hne, Bool.not_false, cond_true]
    rfl
  · have hc' : (k ++ 32 :: t)[k.length]? = some 32 := by simp
    simp only [calqueref44_readRule_b1, ixg hc', Option.bind_some]
    rw [decide_eq_true (by simp; omega)]
    rfl
theorem rrule_loop {N : Nat} {s : Str} {m : Nat} (hs : s.length ≤ 1000000) (hm : m ≤ s.length) (hN : s.length + 100 ≤ N) :
    ∃ b, iter (fun a : Int × Rule => calqueref44_readRule_b2 N s a.1 a.2) N ((m : Int), Rule.mk (s.take m) [] []) = some b ∧ ((∃ r n, b = .inl (r, n) ∧ HC s.length r ∧ (r.Next = [] ∨ word r.Next = true)) ∨ ∃ r, b = .inr (r, false)) := by
  refine iter_meas (body := fun a : Int × Rule => calqueref44_readRule_b2 N s a.1 a.2) (fun a => ∃ p : Nat, p ≤ s.length ∧ (a.1 = (p : Int) ∨ a.1 = -1) ∧ HC s.length a.2 ∧ a.2.Items.length ≤ p ∧ a.2.Next = []) (fun a => pm s a.1) _ (fun a ha => ?_) N _ (by unfold pm; rw [if_neg (by omega)]; omega) ⟨m, hm, .inl rfl, ⟨by simp; omega, by simp, by simp, fun x hx => by cases hx⟩, by simp, rfl⟩
  obtain ⟨a, ⟨K, I, X⟩⟩ := a
  obtain ⟨p, g1, g2, ⟨g3, g4, g5, g6⟩, g7, g8⟩ := ha
  simp only at g2 g3 g4 g5 g6 g7 g8 ⊢
  subst g8
  unfold calqueref44_readRule_b2
  rcases g2 with rfl | rfl
  rotate_left
  · exact .inr ⟨_, rfl, .inl ⟨_, _, rfl, ⟨g3, g4, g5, g6⟩, .inl rfl⟩⟩
  have e1 : decide ((p : Int) ≥ 0) = true := decide_eq_true (by omega)
  simp only [e1, cond_true]
  by_cases h1 : (p : Int) < (s.length : Int)
  rotate_left
  · rw [decide_eq_false h1]
    exact .inr ⟨_, rfl, .inl ⟨_, _, rfl, ⟨g3, g4, g5, g6⟩, .inl rfl⟩⟩
  rw [decide_eq_true h1]
  simp only [cond_true]
  obtain ⟨x, n, q1, q2, q3⟩ := ritem_tot (N := N) (p := p + 1) hs (by omega)
  have step : ∀ (o : Option ((Int × Rule) ⊕ ((Rule × Int) ⊕ (Rule × Bool)))), o = ((calqueref44_readItem N s ((p : Int) + 1)).bind fun r76 => (app I ([r76.1] : List (Item))).bind fun l91 => some (.inl (r76.2, (Rule.mk K l91 [])))) →
      (∃ s', o = some (.inl s') ∧ (∃ p : Nat, p ≤ s.length ∧ (s'.1 = (p : Int) ∨ s'.1 = -1) ∧ HC s.length s'.2 ∧ s'.2.Items.length ≤ p ∧ s'.2.Next = []) ∧ pm s s'.1 < pm s (p : Int)) ∨ ∃ b, o = some (.inr b) ∧ ((∃ r n, b = .inl (r, n) ∧ HC s.length r ∧ (r.Next = [] ∨ word r.Next = true)) ∨ ∃ r, b = .inr (r, false)) := by
    intro o ho
    subst ho
    rw [show (p : Int) + 1 = ((p + 1 : Nat) : Int) by omega, q1]
    simp only [Option.bind_some]
    rw [app1 (by simp; omega)]
    have hmem : ∀ y ∈ I ++ [x], IB s.length y := fun y hy => by
      rcases List.mem_append.1 hy with hy | hy
      · exact g6 y hy
      · rw [List.mem_singleton.1 hy]; exact q2
    have hmu : pm s n < pm s (p : Int) := by
      have := q3.pm (by omega)
      unfold pm at this ⊢
      rw [if_neg (show ¬((p : Int) < 0) by omega)]
      rw [if_neg (show ¬(((p + 1 : Nat) : Int) < 0) by omega)] at this
      omega
    refine .inl ⟨_, rfl, ?_, hmu⟩
    rcases q3 with rfl | ⟨m, rfl, k1, k2⟩
    · exact ⟨p + 1, by omega, .inr rfl, ⟨g3, g4, by simp; omega, hmem⟩, by simp; omega, rfl⟩
    · exact ⟨m, k2, .inl rfl, ⟨g3, g4, by simp; omega, hmem⟩, by simp; omega, rfl⟩
  cases decide ((I.length : Int) > 0) with
  | false => exact step _ rfl
  | true =>
    simp only [cond_true]
    rw [show (4 : Int) = ((4 : Nat) : Int) from rfl, wr (by omega)]
    by_cases h4 : ((p + 4 : Nat) : Int) ≤ (s.length : Int)
    · rw [decide_eq_true h4, show ((p + 4 : Nat) : Int) = (p : Int) + ((4 : Nat) : Int) by omega, slc_mid (by omega)]
      simp only [cond_true, Option.bind_some]
      cases ((s.drop p).take 4 == ([32, 45, 62, 32] : Str)) with
      | false => exact step _ rfl
      | true =>
        rw [ad, slc_tail (by omega)]
        simp only [cond_true, Option.bind_some]
        rw [ref_word_eq (by simp; omega)]
        simp only [Option.bind_some]
        cases hw : word (s.drop (p + 4)) with
        | false => exact .inr ⟨_, rfl, .inr ⟨_, rfl⟩⟩
        | true => exact .inr ⟨_, rfl, .inl ⟨_, _, rfl, ⟨g3, by simp, g5, g6⟩, .inr hw⟩⟩
    · rw [decide_eq_false h4]
      exact step _ rfl
theorem slc_pre {s : Str} {m : Nat} (h : m ≤ s.length) : slc s 0 (m : Int) = some (s.take m) := by
  unfold slc
  rw [if_pos (by omega)]
  simp
theorem rrule_tot {N : Nat} {s : Str} (hs : s.length ≤ 1000000) (hN : s.length + 100 ≤ N) : ∃ r b, calqueref44_readRule N s = some (r, b) ∧ (b = true → Good r ∧ lineT r = s) := by
  unfold calqueref44_readRule
  obtain ⟨m, h1, h2⟩ := kind_loop (N := N) (s := s) (by omega)
  rw [h1]
  simp only [Option.bind_some, slc_pre h2]
  obtain ⟨b, h3, h4⟩ := rrule_loop (N := N) hs h2 hN
  rw [h3]
  rcases h4 with ⟨r, n, rfl, h5, h6⟩ | ⟨r, rfl⟩
  · simp only [Option.bind_some, Sum.elim_inl]
    cases decide (n ≥ 0) with
    | false => exact ⟨_, false, rfl, fun h => by cases h⟩
    | true =>
      simp only [cond_true]
      rcases (ref_proper_eq (h5.sz hN)).cases with ⟨h, p⟩ | ⟨h, p⟩
      · rw [h]
        have hi : ∀ x ∈ r.Items, InB x := fun x hx => (h5.2.2.2 x hx).2.2
        have hg : Good r := ⟨p, h6, hi⟩
        simp only [Option.bind_some, cond_true, ref_line_eq p hg.next hi (by omega : 100 ≤ N)]
        exact ⟨_, _, rfl, fun h => ⟨hg, eq_of_beq h⟩⟩
      · rw [h]
        exact ⟨_, false, rfl, fun h => by cases h⟩
  · exact ⟨r, false, rfl, fun h => by cases h⟩
theorem rrule_back {N : Nat} {r : Rule} (h : Good r) (hN : 5000 ≤ N) : calqueref44_readRule N (lineT r) = some (r, true) := by
  have hnl := h.next
  have hll := lineT_len h.1 hnl
  have hkw := word_no h.1.1 32 (by decide)
  obtain ⟨K, I, X⟩ := r
  have hI := h.1.2.1
  simp only at hkw hI
  obtain ⟨nt, hnt⟩ : ∃ nt : Str, nt = (if X = [] then [] else [32, 45, 62, 32] ++ X) := ⟨_, rfl⟩
  have hline : lineT (Rule.mk K I X) = K ++ (I.flatMap (fun x => 32 :: itemT x) ++ nt) := by
    unfold lineT; rw [hnt]; simp
  obtain ⟨t0, ht0⟩ : ∃ t0, lineT (Rule.mk K I X) = K ++ 32 :: t0 := by
    cases I with
    | nil => simp at hI
    | cons x l => exact ⟨itemT x ++ (l.flatMap (fun x => 32 :: itemT x) ++ nt), by rw [hline]; simp⟩
  generalize hs : lineT (Rule.mk K I X) = s at *
  have hsl : s.length ≤ 4080 := hll
  unfold calqueref44_readRule
  have hkb := kind_back (N := N) (k := K) (t := t0) hkw (by rw [← ht0]; omega)
  rw [← ht0] at hkb
  have hKs : K.length ≤ s.length := by rw [ht0]; simp
  rw [hkb]
  simp only [Option.bind_some, slc_pre hKs]
  have hkt : s.take K.length = K := by rw [ht0]; simp
  rw [hkt]
  have hd : ∀ k, s.drop (K.length + ((I.take k).flatMap (fun x => 32 :: itemT x)).length) = (I.drop k).flatMap (fun x => 32 :: itemT x) ++ nt := fun k => by
    have h1 : s.drop K.length = I.flatMap (fun x => 32 :: itemT x) ++ nt := by rw [hline]; simp
    refine drop_app ?_
    rw [h1, ← List.append_assoc, ← List.flatMap_append, List.take_append_drop]
  have hbeh : ∀ k, Behind ((I.drop k).flatMap (fun x => 32 :: itemT x) ++ nt) := fun k => by
    cases I.drop k with
    | nil =>
      by_cases h0 : X = []
      · rw [hnt, if_pos h0]; exact .inl rfl
      · rw [hnt, if_neg h0]; exact .inr ⟨_, rfl⟩
    | cons x l => exact .inr ⟨_, rfl⟩
  obtain ⟨z, hz⟩ : ∃ z : Nat, iter (fun a : Int × Rule => calqueref44_readRule_b2 N s a.1 a.2) N ((K.length : Int), Rule.mk K [] []) = some (.inl (Rule.mk K I X, (z : Int))) := by
    refine ⟨K.length + (I.flatMap (fun x => 32 :: itemT x)).length, ?_⟩
    refine iter_at (body := fun a : Int × Rule => calqueref44_readRule_b2 N s a.1 a.2) (fun k : Nat => (((K.length + ((I.take k).flatMap (fun x => 32 :: itemT x)).length : Nat) : Int), Rule.mk K (I.take k) [])) I.length _ (by simp) (fun k hk => ?_) ?_ N (by omega)
    · obtain ⟨x, hx⟩ := at_lt hk
      have hxm := List.mem_of_getElem? hx
      have hq := hd k
      rw [drop1 hx, List.append_assoc] at hq
      have e9 : ((I.take (k + 1)).flatMap (fun x => 32 :: itemT x)).length = ((I.take k).flatMap (fun x => 32 :: itemT x)).length + (1 + (itemT x).length) := by
        rw [← take_flat (fun x => 32 :: itemT x) hx, List.length_append, List.length_cons]; omega
      rw [e9]
      generalize hP : K.length + ((I.take k).flatMap (fun x => 32 :: itemT x)).length = P at hq
      have hq' : s.drop P = 32 :: (itemT x ++ ((I.drop (k + 1)).flatMap (fun x => 32 :: itemT x) ++ nt)) := hq
      have hl := dlen hq' (by simp)
      simp only [List.length_cons] at hl
      have hq2 := drop_app (a := [32]) hq'
      have hit := ritem_back (N := N) (by omega) (h.1.2.2 x hxm) (h.2.2 x hxm) hq2 (hbeh (k + 1)) (by omega)
      have hgo : ((calqueref44_readItem N s ((P : Int) + 1)).bind fun r76 => (app (I.take k) ([r76.1] : List (Item))).bind fun l91 => some (.inl (r76.2, (Rule.mk K l91 []))) : Option ((Int × Rule) ⊕ ((Rule × Int) ⊕ (Rule × Bool)))) = some (.inl (((K.length + (((I.take k).flatMap (fun x => 32 :: itemT x)).length + (1 + (itemT x).length)) : Nat) : Int), Rule.mk K (I.take (k + 1)) [])) := by
        rw [show (P : Int) + 1 = ((P + ([32] : Str).length : Nat) : Int) by simp, hit]
        simp only [Option.bind_some]
        rw [app1 (by simp; omega), take1 hx]
        simp only [Option.bind_some, List.length_cons, List.length_nil]
        rw [show K.length + (((I.take k).flatMap (fun x => 32 :: itemT x)).length + (1 + (itemT x).length)) = P + (0 + 1) + (itemT x).length by omega]
      unfold calqueref44_readRule_b2
      rw [decide_eq_true (by omega), decide_eq_true (by omega)]
      simp only [cond_true]
      cases decide (((I.take k).length : Int) > 0) with
      | false => exact hgo
      | true =>
        simp only [cond_true]
        rw [show (4 : Int) = ((4 : Nat) : Int) from rfl, wr (by omega)]
        by_cases h4 : ((P + 4 : Nat) : Int) ≤ (s.length : Int)
        · rw [decide_eq_true h4, show ((P + 4 : Nat) : Int) = (P : Int) + ((4 : Nat) : Int) by omega, slc_mid (by omega)]
          simp only [cond_true, Option.bind_some]
          have hno : ((s.drop P).take 4 == ([32, 45, 62, 32] : Str)) = false := by
            rw [hq']
            obtain ⟨d, u, e4, e5⟩ := itemT_head x ((I.drop (k + 1)).flatMap (fun x => 32 :: itemT x) ++ nt)
            rw [e4, beq_eq_false_iff_ne]
            intro e
            simp only [List.take_succ_cons] at e
            injection e with _ e
            injection e with e _
            rcases e5 with rfl | rfl <;> cases e
          rw [hno]
          exact hgo
        · rw [decide_eq_false h4]
          exact hgo
    · have hq := hd I.length
      rw [List.drop_length, List.take_length] at hq
      have hq' : s.drop (K.length + (I.flatMap (fun x => 32 :: itemT x)).length) = nt := hq
      simp only [List.take_length]
      generalize hP : K.length + (I.flatMap (fun x => 32 :: itemT x)).length = P at hq' ⊢
      unfold calqueref44_readRule_b2
      rw [decide_eq_true (by omega)]
      by_cases h0 : X = []
      · rw [hnt, if_pos h0] at hq'
        have : s.length ≤ P := by simpa using hq'
        rw [decide_eq_false (by omega)]
        subst h0
        rfl
      · rw [hnt, if_neg h0] at hq'
        have hl := dlen hq' (by simp)
        simp only [List.length_append, List.length_cons, List.length_nil] at hl
        rw [decide_eq_true (by omega), decide_eq_true (show (((Rule.mk K I []).Items.length : Nat) : Int) > 0 by simp only; omega)]
        simp only [cond_true]
        rw [show (4 : Int) = ((4 : Nat) : Int) from rfl, wr (by omega), decide_eq_true (by omega), show ((P + 4 : Nat) : Int) = (P : Int) + ((4 : Nat) : Int) by omega, slc_mid (by omega)]
        simp only [cond_true, Option.bind_some]
        have hyes : ((s.drop P).take 4 == ([32, 45, 62, 32] : Str)) = true := by rw [hq']; simp
        have h5 : s.drop (P + 4) = X := drop_app (a := [32, 45, 62, 32]) hq'
        have hwx : word X = true := h.2.1.resolve_left h0
        rw [hyes, ad, slc_tail (by omega), h5]
        simp only [cond_true, Option.bind_some]
        rw [ref_word_eq (by have := (word_len hwx).2; omega), hwx]
        rfl
  rw [hz]
  simp only [Option.bind_some, Sum.elim_inl]
  rw [decide_eq_true (show (z : Int) ≥ 0 by omega)]
  simp only [cond_true]
  have hsz : SzR N (Rule.mk K I X) := by
    refine ⟨by have := (word_len h.1.1).2; simp only at this ⊢; omega, by simp only at hnl ⊢; omega, by simp only; omega, fun y hy => ?_⟩
    have := (h.1.2.2 y hy).2
    split at this
    · rename_i g; rw [g]; simp; omega
    · rw [this.2.1]; simp; omega
  rcases (ref_proper_eq hsz).cases with ⟨g, p⟩ | ⟨g, p⟩
  · rw [g]
    simp only [Option.bind_some, cond_true, ref_line_eq h.1 hnl h.2.2 (by omega : 100 ≤ N), hs]
    simp
  · exact absurd h.1 p
end Go.Proofs.Ytmmioinglmeoiaa
namespace Go.Proofs.Ytmmioinglmeoiaa
open Go.X
theorem Good.sz {N : Nat} {r : Rule} (h : Good r) (hN : 5000 ≤ N) : SzR N r := by
  have hn := h.next
  refine ⟨by have := (word_len h.1.1).2; omega, by omega, by have := h.1.2.1; omega, fun y hy => ?_⟩
  have := (h.1.2.2 y hy).2
  split at this
  · rename_i g; rw [g]; simp; omega
  · rw [this.2.1]; simp; omega
def lineR (l : Str) : Option Rule := match scan_rule (l.length + 6000) l with | some (r, true) => some r | _ => none
theorem lineR_iff {l : Str} (hl : l.length ≤ 1000000) {r : Rule} : lineR l = some r ↔ Good r ∧ lineT r = l := by
  unfold lineR
  constructor
  · intro h
    obtain ⟨q, b, h1, h2⟩ := rule_tot (N := l.length + 6000) hl (by omega)
    rw [h1] at h
    cases b with
    | false => cases h
    | true => cases h; exact h2 rfl
  · rintro ⟨h1, rfl⟩
    rw [rule_back h1 (by omega)]
theorem scan_at {N : Nat} {l : Str} (hl : l.length ≤ 1000000) (hN : l.length + 5000 ≤ N) : ∃ r b, scan_rule N l = some (r, b) ∧ ((b = true ∧ lineR l = some r) ∨ (b = false ∧ lineR l = none)) := by
  obtain ⟨r, b, h1, h2⟩ := rule_tot (N := N) hl (by omega)
  refine ⟨r, b, h1, ?_⟩
  cases b with
  | true => exact .inl ⟨rfl, (lineR_iff hl).2 (h2 rfl)⟩
  | false =>
    refine .inr ⟨rfl, ?_⟩
    cases h : lineR l with
    | none => rfl
    | some q =>
      obtain ⟨g1, g2⟩ := (lineR_iff hl).1 h
      have := rule_back (N := N) g1 (by omega)
      rw [g2, h1] at this
      cases this
theorem ref_at {N : Nat} {l : Str} (hl : l.length ≤ 1000000) (hN : l.length + 5000 ≤ N) : ∃ r b, calqueref44_readRule N l = some (r, b) ∧ ((b = true ∧ lineR l = some r) ∨ (b = false ∧ lineR l = none)) := by
  obtain ⟨r, b, h1, h2⟩ := rrule_tot (N := N) hl (by omega)
  refine ⟨r, b, h1, ?_⟩
  cases b with
  | true => exact .inl ⟨rfl, (lineR_iff hl).2 (h2 rfl)⟩
  | false =>
    refine .inr ⟨rfl, ?_⟩
    cases h : lineR l with
    | none => rfl
    | some q =>
      obtain ⟨g1, g2⟩ := (lineR_iff hl).1 h
      have := rrule_back (N := N) g1 (by omega)
      rw [g2, h1] at this
      cases this
abbrev stT : Str := [115, 116, 97, 116, 101, 32]
def isSt (l : Str) : Bool := stT.isPrefixOf l && word (l.drop 6)
def stepL (out : List State) (l : Str) : Option (List State) :=
  if isSt l then some (out ++ [State.mk (l.drop 6) []]) else match lineR l with
    | none => none
    | some r => match out.getLast? with | none => none | some x => some (out.dropLast ++ [State.mk x.Name (x.Rules ++ [r])])
def runL : List Str → List State → Nat → (List State × Nat) ⊕ Nat
  | [], out, n => .inl (out, n)
  | l :: ls, out, n => match stepL out l with | some o => runL ls o (n + 1) | none => .inr n
def lns : Str → Str → List Str × Str
  | cur, [] => ([], cur)
  | cur, c :: s => if c = 10 then (cur :: (lns [] s).1, (lns [] s).2) else lns (cur ++ [c]) s
theorem lns_none : ∀ (s cur : Str), (10 : UInt8) ∉ s → lns cur s = ([], cur ++ s) := by
  intro s
  induction s with
  | nil => intro cur _; simp [lns]
  | cons c s ih =>
    intro cur h
    simp only [List.mem_cons, not_or] at h
    unfold lns
    rw [if_neg (fun e => h.1 e.symm), ih _ h.2]
    simp
theorem lns_some : ∀ (a cur b : Str), (10 : UInt8) ∉ a → lns cur (a ++ 10 :: b) = ((cur ++ a) :: (lns [] b).1, (lns [] b).2) := by
  intro a
  induction a with
  | nil => intro cur b _; simp [lns]
  | cons c a ih =>
    intro cur b h
    simp only [List.mem_cons, not_or] at h
    simp only [List.cons_append]
    conv => lhs; unfold lns
    rw [if_neg (fun e => h.1 e.symm), ih _ _ h.2]
    simp
theorem lns_join : ∀ (s cur : Str), (lns cur s).1.flatMap (fun l => l ++ [10]) ++ (lns cur s).2 = cur ++ s := by
  intro s
  induction s with
  | nil => intro cur; simp [lns]
  | cons c s ih =>
    intro cur
    unfold lns
    by_cases h : c = 10
    · rw [if_pos h]
      simp only [List.flatMap_cons, List.append_assoc, ih]
      rw [h]; rfl
    · rw [if_neg h, ih]; simp
def PInv (L : Nat) (out : List State) : Prop := out.length ≤ L ∧ ∀ x ∈ out, word x.Name = true ∧ x.Rules.length ≤ L ∧ ∀ r ∈ x.Rules, Good r
theorem PInv.up {L M : Nat} {out : List State} (h : PInv L out) (hM : L ≤ M) : PInv M out := ⟨by have := h.1; omega, fun x hx => ⟨(h.2 x hx).1, by have := (h.2 x hx).2.1; omega, (h.2 x hx).2.2⟩⟩
theorem PInv.step {L : Nat} {out o : List State} {l : Str} (hl : l.length ≤ 1000000) (h : PInv L out) (ho : stepL out l = some o) : PInv (L + 1) o := by
  unfold stepL at ho
  cases hs : isSt l with
  | true =>
    rw [hs, if_pos rfl] at ho
    cases ho
    unfold isSt at hs
    simp only [Bool.and_eq_true] at hs
    refine ⟨by have := h.1; simp; omega, fun x hx => ?_⟩
    rcases List.mem_append.1 hx with hx | hx
    · exact (h.up (Nat.le_succ L)).2 x hx
    · rw [List.mem_singleton.1 hx]; exact ⟨hs.2, by simp, fun r hr => by cases hr⟩
  | false =>
    rw [hs, if_neg (by decide)] at ho
    cases hr : lineR l with
    | none => rw [hr] at ho; cases ho
    | some r =>
      rw [hr] at ho
      cases hg : out.getLast? with
      | none => rw [hg] at ho; cases ho
      | some x =>
        rw [hg] at ho
        cases ho
        have hx : x ∈ out := List.mem_of_getLast? hg
        have hx' := h.2 x hx
        refine ⟨by have := h.1; simp; omega, fun y hy => ?_⟩
        rcases List.mem_append.1 hy with hy | hy
        · exact (h.up (Nat.le_succ L)).2 y ((List.dropLast_sublist out).subset hy)
        · rw [List.mem_singleton.1 hy]
          refine ⟨hx'.1, by simp; omega, fun q hq => ?_⟩
          rcases List.mem_append.1 hq with hq | hq
          · exact hx'.2.2 q hq
          · rw [List.mem_singleton.1 hq]; exact ((lineR_iff hl).1 hr).1
theorem PInv.sz {L N : Nat} {out : List State} (h : PInv L out) (hN : L + 5000 ≤ N) : Sz N out :=
  ⟨by have := h.1; omega, fun x hx => ⟨by have := (word_len (h.2 x hx).1).2; omega, by have := (h.2 x hx).2.1; omega, fun r hr => ((h.2 x hx).2.2 r hr).sz (by omega)⟩⟩
theorem PInv.sb {L : Nat} {out : List State} (h : PInv L out) : Sb out := fun x hx r hr => ((h.2 x hx).2.2 r hr).2.2
theorem last_idx {out : List State} {x : State} (h : out.getLast? = some x) : idx out ((out.length : Int) - 1) = some x ∧ 0 < out.length ∧ ∀ y, out.set ((out.length : Int) - 1).toNat y = out.dropLast ++ [y] := by
  obtain ⟨l, rfl⟩ := List.getLast?_eq_some_iff.1 h
  refine ⟨?_, by simp, fun y => ?_⟩
  · rw [show (((l ++ [x]).length : Nat) : Int) - 1 = (l.length : Int) by simp, ix]; simp
  · rw [show ((((l ++ [x]).length : Nat) : Int) - 1).toNat = l.length by simp]; simp
def outP (s : Str) (r : (List State × Nat) ⊕ Nat) (rest : Str) : List State ⊕ (List State × Int × Int) :=
  match r with
  | .inr k => .inr ([], (k : Int), 3)
  | .inl (o, k) => if rest = [] then .inl o else .inr ([], (k : Int), 3)
theorem parse_body {N : Nat} {a b : Str} {out : List State} {n L : Nat} (ha : (10 : UInt8) ∉ a) (hL : PInv L out) (hL2 : L ≤ 1000000) (hl : (a ++ 10 :: b).length ≤ 1000000) (hn : n ≤ 1000000) (hN : (a ++ 10 :: b).length + 5000 ≤ N) :
    scan_Parse_b1 N (a ++ 10 :: b) out n = some (match stepL out a with | some o => .inl (b, o, ((n + 1 : Nat) : Int)) | none => .inr (.inr ([], (n : Int), 3))) := by
  have hne : ((a ++ 10 :: b : Str) != ([] : Str)) = true := by simp
  have hal : a.length ≤ 1000000 ∧ a.length + 5000 ≤ N := by simp at hl hN; omega
  obtain ⟨r, rb, h1, h2⟩ := scan_at (N := N) hal.1 hal.2
  have hcut : Lib.cut (a ++ 10 :: b) [10] = (a, b, true) := cut_app ha
  unfold scan_Parse_b1
  simp only [hne, cond_true]
  unfold strings_Cut strings_CutPrefix
  rw [if_pos (by omega), hcut]
  simp only [Option.bind_some, h1, Bool.not_true, cond_false, Lib.hasPrefix, Lib.trimPrefix]
  rw [show (1 : Int) = ((1 : Nat) : Int) from rfl, wr (by omega)]
  have hrule : isSt a = false → (bif rb then
            bif (decide ((out.length : Int) > 0)) then
              (idx out ((out.length : Int) - ((1 : Nat) : Int))).bind fun x59 =>
              (show Option ((List (State))) from
                (app x59.Rules ([r] : List (Rule))).bind fun l86 =>
                some (out.set ((out.length : Int) - ((1 : Nat) : Int)).toNat (State.mk x59.Name l86))).bind fun o65 =>
              some (.inl (b, o65, ((n + 1 : Nat) : Int)))
            else
              some (.inr (.inr ([], (n : Int), 3)))
          else
            some (.inr (.inr ([], (n : Int), 3))) : Option ((Str × List State × Int) ⊕ (List State ⊕ (List State × Int × Int)))) = some (match stepL out a with | some o => .inl (b, o, ((n + 1 : Nat) : Int)) | none => .inr (.inr ([], (n : Int), 3))) := by
    intro hst
    unfold stepL
    rw [hst, if_neg (by decide)]
    rcases h2 with ⟨rfl, h2⟩ | ⟨rfl, h2⟩
    · rw [h2]
      cases hg : out.getLast? with
      | none =>
        have : out = [] := List.getLast?_eq_none_iff.1 hg
        subst this
        rfl
      | some x =>
        obtain ⟨g1, g2, g3⟩ := last_idx hg
        have hx := hL.2 x (List.mem_of_getLast? hg)
        rw [decide_eq_true (by omega)]
        simp only [cond_true]
        rw [show (((1 : Nat) : Int)) = (1 : Int) from rfl, g1]
        simp only [Option.bind_some]
        rw [app1 (by simp; omega)]
        simp only [Option.bind_some, g3]
    · rw [h2]
      rfl
  by_cases hp : ([115, 116, 97, 116, 101, 32] : Str).isPrefixOf a = true
  · have hdl : ([115, 116, 97, 116, 101, 32] : Str).length = 6 := rfl
    simp only [hp, if_true, cond_true, hdl]
    rw [scan_word_eq (by simp; omega)]
    simp only [Option.bind_some]
    cases hw : word (a.drop 6) with
    | true =>
      have hst : isSt a = true := by unfold isSt; rw [hp, hw]; rfl
      simp only [cond_true]
      rw [app1 (by have := hL.1; simp; omega)]
      unfold stepL
      rw [if_pos hst]
      rfl
    | false =>
      have hst : isSt a = false := by unfold isSt; rw [hp, hw]; rfl
      exact hrule hst
  · have hpf : ([115, 116, 97, 116, 101, 32] : Str).isPrefixOf a = false := Bool.eq_false_iff.2 hp
    have hst : isSt a = false := by unfold isSt; rw [hpf]; rfl
    simp only [hpf]
    exact hrule hst
theorem parse_loop {N : Nat} : ∀ (k M L n : Nat) (s : Str) (out : List State), s.length ≤ k → s.length < M → PInv L out → L + s.length ≤ 1000000 → n + s.length ≤ 1000000 → s.length + 5000 ≤ N →
    iter (fun a : Str × List State × Int => scan_Parse_b1 N a.1 a.2.1 a.2.2) M (s, out, (n : Int)) = some (outP s (runL (lns [] s).1 out n) (lns [] s).2) := by
  intro k
  induction k with
  | zero =>
    intro M L n s out hk hM _ _ _ _
    obtain ⟨M, rfl⟩ : ∃ M', M = M' + 1 := ⟨M - 1, by omega⟩
    have : s = [] := List.length_eq_zero_iff.1 (by omega)
    subst this
    rfl
  | succ k ih =>
    intro M L n s out hk hM hL h1 h2 hN
    obtain ⟨M, rfl⟩ : ∃ M', M = M' + 1 := ⟨M - 1, by omega⟩
    by_cases h0 : s = []
    · subst h0; rfl
    by_cases hm : (10 : UInt8) ∈ s
    · obtain ⟨a, b, rfl, ha⟩ := List.eq_append_cons_of_mem hm
      have hb := parse_body (N := N) (b := b) ha hL (by omega) (by omega) (by omega : n ≤ 1000000) hN
      rw [lns_some a [] b ha]
      simp only [List.nil_append, runL]
      have hlen : (a ++ 10 :: b).length = a.length + (b.length + 1) := by simp
      cases hs : stepL out a with
      | none =>
        rw [hs] at hb
        simp only [iter, hb]
        rfl
      | some o =>
        rw [hs] at hb
        simp only [iter, hb]
        have := ih M (L + 1) (n + 1) b o (by omega) (by omega) (hL.step (by omega) hs) (by omega) (by omega) (by omega)
        rw [this]
        rfl
    · have hb : scan_Parse_b1 N s out n = some (.inr (.inr ([], (n : Int), 3))) := by
        obtain ⟨r, rb, g1, _⟩ := scan_at (N := N) (l := s) (by omega) (by omega)
        unfold scan_Parse_b1
        simp only [isEmp h0, cond_true]
        unfold strings_Cut strings_CutPrefix
        rw [if_pos (by omega), cut_none hm]
        simp only [Option.bind_some, g1]
        rfl
      rw [lns_none s [] hm]
      simp only [iter, hb, runL, outP, List.nil_append, if_neg h0]
def outR (s : Str) (r : (List State × Nat) ⊕ Nat) (rest : Str) : (List State × Int × Int) ⊕ (List State × Int × Int) :=
  match r with
  | .inr k => .inr ([], (k : Int), 3)
  | .inl (o, k) => .inl (o, ((s.length - rest.length : Nat) : Int), (k : Int))
theorem ref_body {N : Nat} {s a : Str} {from' i : Nat} {out : List State} {n L : Nat} (hi : s[i]? = some 10) (hf : from' ≤ i) (ha : (s.drop from').take (i - from') = a) (hL : PInv L out) (hL2 : L ≤ 1000000) (hl : s.length ≤ 1000000) (hn : n ≤ 1000000) (hN : s.length + 5000 ≤ N) :
    calqueref44_Parse_b1 N s out from' n i = some (match stepL out a with | some o => .inl (o, ((i + 1 : Nat) : Int), ((n + 1 : Nat) : Int), ((i + 1 : Nat) : Int)) | none => .inr (.inr ([], (n : Int), 3))) := by
  have hil := getlt hi
  have hal : a.length ≤ s.length := by rw [← ha]; simp; omega
  obtain ⟨r, rb, h1, h2⟩ := ref_at (N := N) (l := a) (by omega) (by omega)
  have e10 : (((10 : UInt8).toNat : Int) != 10) = false := rfl
  have hsl : slc s (from' : Int) (i : Int) = some a := by
    rw [show (i : Int) = (from' : Int) + ((i - from' : Nat) : Int) by omega, slc_mid (by omega), ha]
  unfold calqueref44_Parse_b1
  simp only [dk hil, cond_true, ixg hi, Option.bind_some, e10, cond_false, hsl, h1]
  rw [show (1 : Int) = ((1 : Nat) : Int) from rfl, wr (by omega), ad]
  have hrule : isSt a = false → (bif rb then
            bif (decide ((out.length : Int) > 0)) then
              (show Option ((List (State))) from
                (idx out ((out.length : Int) - ((1 : Nat) : Int))).bind fun x164 =>
                (app x164.Rules ([r] : List (Rule))).bind fun l187 =>
                (idx out ((out.length : Int) - ((1 : Nat) : Int))).bind fun _x192 =>
                some (out.set ((out.length : Int) - ((1 : Nat) : Int)).toNat (State.mk x164.Name l187))).bind fun o160 =>
              some (.inl (o160, ((i + 1 : Nat) : Int), ((n + 1 : Nat) : Int), ((i + 1 : Nat) : Int)))
            else
              some (.inr (.inr ([], (n : Int), 3)))
          else
            some (.inr (.inr ([], (n : Int), 3))) : Option ((List State × Int × Int × Int) ⊕ ((List State × Int × Int) ⊕ (List State × Int × Int)))) = some (match stepL out a with | some o => .inl (o, ((i + 1 : Nat) : Int), ((n + 1 : Nat) : Int), ((i + 1 : Nat) : Int)) | none => .inr (.inr ([], (n : Int), 3))) := by
    intro hst
    unfold stepL
    rw [hst, if_neg (by decide)]
    rcases h2 with ⟨rfl, h2⟩ | ⟨rfl, h2⟩
    · rw [h2]
      cases hg : out.getLast? with
      | none =>
        have : out = [] := List.getLast?_eq_none_iff.1 hg
        subst this
        rfl
      | some x =>
        obtain ⟨g1, g2, g3⟩ := last_idx hg
        have hx := hL.2 x (List.mem_of_getLast? hg)
        rw [decide_eq_true (by omega)]
        simp only [cond_true]
        rw [show (((1 : Nat) : Int)) = (1 : Int) from rfl, g1]
        simp only [Option.bind_some]
        rw [app1 (by simp; omega)]
        simp only [Option.bind_some, g3]
    · rw [h2]
      rfl
  by_cases h6 : (a.length : Int) > 6
  rotate_left
  · rw [decide_eq_false h6]
    have hst : isSt a = false := by
      unfold isSt
      have : word (a.drop 6) = false := by
        cases hw : word (a.drop 6) with
        | false => rfl
        | true => have := (word_len hw).1; simp at this; omega
      rw [this, Bool.and_false]
    exact hrule hst
  rw [decide_eq_true h6]
  have ht6 : slc a 0 6 = some (a.take 6) := slc_pre (s := a) (m := 6) (by omega)
  have hd6 : slc a 6 (a.length : Int) = some (a.drop 6) := slc_tail (s := a) (n := 6) (by omega)
  simp only [cond_true, ht6, hd6, Option.bind_some]
  have hpre : (a.take 6 == stT) = stT.isPrefixOf a := by
    cases hp : stT.isPrefixOf a with
    | true =>
      have := List.prefix_iff_eq_take.1 (List.isPrefixOf_iff_prefix.1 hp)
      rw [show stT.length = 6 from rfl] at this
      rw [← this]; simp
    | false =>
      rw [beq_eq_false_iff_ne]
      intro e
      have : stT.isPrefixOf a = true := List.isPrefixOf_iff_prefix.2 (List.prefix_iff_eq_take.2 e.symm)
      rw [this] at hp; cases hp
  rw [hpre, ref_word_eq (by simp; omega)]
  simp only [Option.bind_some]
  cases hp : stT.isPrefixOf a with
  | true =>
    simp only [cond_true]
    cases hw : word (a.drop 6) with
    | true =>
      have hst : isSt a = true := by unfold isSt; rw [hp, hw]; rfl
      simp only [cond_true]
      rw [app1 (by have := hL.1; simp; omega)]
      unfold stepL
      rw [if_pos hst]
      rfl
    | false =>
      have hst : isSt a = false := by unfold isSt; rw [hp, hw]; rfl
      simp only [cond_false]
      refine Eq.trans ?_ (hrule hst)
      cases rb with
      | false => rfl
      | true =>
        simp only [cond_true]
        cases decide ((out.length : Int) > 0) with
        | false => rfl
        | true =>
          simp only [cond_true]
          cases idx out ((out.length : Int) - ((1 : Nat) : Int)) with
          | none => rfl
          | some x =>
            simp only [Option.bind_some]
            cases app x.Rules [r] <;> rfl
  | false =>
    have hst : isSt a = false := by unfold isSt; rw [hp]; rfl
    exact hrule hst
theorem ref_loop2 {N : Nat} {s : Str} (hl : s.length ≤ 100000) (hN : s.length + 5000 ≤ N) : ∀ (j M L n from' i : Nat) (out : List State), i + j = s.length → j < M → from' ≤ i → PInv L out → L ≤ i → n ≤ i →
    iter (fun a : List State × Int × Int × Int => calqueref44_Parse_b1 N s a.1 a.2.1 a.2.2.1 a.2.2.2) M (out, (from' : Int), (n : Int), (i : Int)) = some (outR s (runL (lns ((s.drop from').take (i - from')) (s.drop i)).1 out n) (lns ((s.drop from').take (i - from')) (s.drop i)).2) := by
  intro j
  induction j with
  | zero =>
    intro M L n from' i out hi hM hf _ _ _
    obtain ⟨M, rfl⟩ : ∃ M', M = M' + 1 := ⟨M - 1, by omega⟩
    obtain rfl : i = s.length := by omega
    have hb : calqueref44_Parse_b1 N s out from' n s.length = some (.inr (.inl (out, (from' : Int), (n : Int)))) := by simp only [calqueref44_Parse_b1, dn, cond_false]
    rw [List.drop_length]
    simp only [iter, hb, lns, runL, outR]
    have : ((s.drop from').take (s.length - from')).length = s.length - from' := by simp
    rw [this, show s.length - (s.length - from') = from' by omega]
  | succ j ih =>
    intro M L n from' i out hi hM hf hL hLi hni
    obtain ⟨M, rfl⟩ : ∃ M', M = M' + 1 := ⟨M - 1, by omega⟩
    have hil : i < s.length := by omega
    obtain ⟨c, hc, hd⟩ := drop_hd hil
    by_cases h10 : c = 10
    · subst h10
      have hb := ref_body (N := N) hc hf rfl hL (by omega) (by omega) (by omega : n ≤ 1000000) hN
      rw [hd]
      simp only [lns, if_true, runL]
      cases hs : stepL out ((s.drop from').take (i - from')) with
      | none =>
        rw [hs] at hb
        simp only [iter, hb]
        rfl
      | some o =>
        rw [hs] at hb
        simp only [iter, hb]
        have := ih M (L + 1) (n + 1) (i + 1) (i + 1) o (by omega) (by omega) (Nat.le_refl _) (hL.step (by simp; omega) hs) (by omega) (by omega)
        rw [this, Nat.sub_self, List.take_zero]
    · have hb : calqueref44_Parse_b1 N s out from' n i = some (.inl (out, (from' : Int), (n : Int), ((i + 1 : Nat) : Int))) := by
        unfold calqueref44_Parse_b1
        simp only [dk hil, cond_true, ixg hc, Option.bind_some]
        rw [show (10 : Int) = ((10 : Nat) : Int) from rfl, neC (by decide)]
        simp only [show decide (c = UInt8.ofNat 10) = false from decide_eq_false h10, Bool.not_false, cond_true]
        rfl
      rw [hd]
      simp only [lns, if_neg h10]
      have hcur : (s.drop from').take (i - from') ++ [c] = (s.drop from').take (i + 1 - from') := by
        rw [show i + 1 - from' = (i - from') + 1 by omega]
        refine take1 ?_
        rw [List.getElem?_drop, show from' + (i - from') = i by omega, hc]
      rw [hcur]
      simp only [iter, hb]
      exact ih M L n from' (i + 1) out (by omega) (by omega) (by omega) hL (by omega) (by omega)
def parR (b : Bool) (s : Str) : List State × Int × Int :=
  match runL (lns [] s).1 [] 0 with
  | .inr n => ([], (n : Int), 3)
  | .inl (o, n) => if (lns [] s).2 = [] then (if b then (o, 0, 0) else ([], 0, 1)) else ([], (n : Int), 3)
theorem runL_inv : ∀ (ls : List Str) (L n : Nat) (out o : List State) (m : Nat), (∀ l ∈ ls, l.length ≤ 1000000) → PInv L out → runL ls out n = .inl (o, m) → PInv (L + ls.length) o := by
  intro ls
  induction ls with
  | nil => intro L n out o m _ h hr; cases hr; exact h
  | cons l ls ih =>
    intro L n out o m hl h hr
    unfold runL at hr
    cases hs : stepL out l with
    | none => rw [hs] at hr; cases hr
    | some q =>
      rw [hs] at hr
      have := ih (L + 1) (n + 1) q o m (fun x hx => hl x (List.mem_cons_of_mem _ hx)) (h.step (hl l (List.mem_cons_self ..)) hs) hr
      rw [List.length_cons, show L + (ls.length + 1) = L + 1 + ls.length by omega]
      exact this
theorem lns_mem_len {s l : Str} (h : l ∈ (lns [] s).1) : l.length ≤ s.length := by
  have := congrArg List.length (lns_join s [])
  simp only [List.length_append, List.nil_append] at this
  have h2 := mem_sum (f := fun l : Str => (l ++ [10]).length) h
  simp only [List.length_flatMap] at this
  simp only [List.length_append, List.length_cons, List.length_nil] at h2 this
  omega
theorem lns_len (s : Str) : (lns [] s).1.length ≤ s.length := by
  have := congrArg List.length (lns_join s [])
  simp only [List.length_append, List.nil_append] at this
  have h2 : ∀ ls : List Str, ls.length ≤ (ls.flatMap (fun l => l ++ [10])).length := fun ls => by
    induction ls with
    | nil => simp
    | cons l ls ih => simp [-List.length_flatMap]; omega
  have := h2 (lns [] s).1
  omega
theorem PInv.nil : PInv 0 [] := ⟨Nat.le_refl _, fun x hx => by cases hx⟩
theorem parse_both {N : Nat} {s : Str} (hs : s.length ≤ 100000) (hN : 2 * s.length + 6000 ≤ N) : ∃ b, scan_Parse N s = some (parR b s) ∧ calqueref44_Parse N s = some (parR b s) ∧ ∀ o n, runL (lns [] s).1 [] 0 = .inl (o, n) → PInv s.length o ∧ (b = true ↔ Vl o) := by
  have h1 := parse_loop (N := N) s.length N 0 0 s [] (Nat.le_refl _) (by omega) PInv.nil (by omega) (by omega) (by omega)
  have h2 := ref_loop2 (N := N) hs (by omega) s.length N 0 0 0 0 [] (by omega) (by omega) (Nat.le_refl _) PInv.nil (Nat.le_refl _) (Nat.le_refl _)
  simp only [List.drop_zero, Nat.sub_self, List.take_zero] at h2
  have hinv := runL_inv (lns [] s).1 0 0 []
  have hmem : ∀ l ∈ (lns [] s).1, l.length ≤ 1000000 := fun l hl => by have := lns_mem_len hl; omega
  unfold scan_Parse calqueref44_Parse
  rw [show (((0 : Nat) : Int)) = (0 : Int) from rfl] at h1 h2
  rw [h1, h2]
  unfold parR
  cases hr : runL (lns [] s).1 [] 0 with
  | inr n => refine ⟨false, ?_, ?_, fun o n h => by cases h⟩ <;> first | trivial | rfl
  | inl q =>
    obtain ⟨o, n⟩ := q
    have hp := (hinv o n hmem PInv.nil hr).up (show 0 + (lns [] s).1.length ≤ s.length by have := lns_len s; omega)
    have hjl := congrArg List.length (lns_join s [])
    simp only [List.length_append, List.nil_append] at hjl
    simp only [outP, outR]
    by_cases h0 : (lns [] s).2 = []
    · rw [if_pos h0, h0]
      simp only [Option.bind_some, Sum.elim_inl, List.length_nil, Nat.sub_zero]
      rw [dn]
      simp only [cond_false, if_true]
      obtain ⟨b, g1, g2⟩ := scan_Valid_eq (N := N) (hp.sz (by omega)) hp.sb (by omega)
      obtain ⟨b', g3, g4⟩ := ref_Valid_eq (N := N) (hp.sz (by omega)) hp.sb (by omega)
      have hbb : b' = b := by
        have := g2.trans g4.symm
        cases b <;> cases b' <;> simp_all
      subst hbb
      rw [g1, g3]
      refine ⟨b', ?_, ?_, fun o' n' h => ?_⟩
      · cases b' <;> rfl
      · cases b' <;> rfl
      · cases h; exact ⟨hp, g2⟩
    · rw [if_neg h0]
      have hpos := List.length_pos_iff.2 h0
      simp only [Option.bind_some, Sum.elim_inl, Sum.elim_inr]
      rw [decide_eq_true (by omega)]
      simp only [cond_true, if_neg h0]
      obtain ⟨b, g1, g2⟩ := scan_Valid_eq (N := N) (hp.sz (by omega)) hp.sb (by omega)
      refine ⟨b, ?_, ?_, fun o' n' h => by cases h; exact ⟨hp, g2⟩⟩ <;> first | trivial | rfl
end Go.Proofs.Ytmmioinglmeoiaa
namespace Go.Proofs.Ytmmioinglmeoiaa
open Go.X
theorem same_item {N : Nat} {x : Item} (hN : x.Ranges.length < N) : calqueref44_sameItem N x x = some true := by
  have ht : ((x.Text != x.Text)) = false := by simp
  have h1 : (x.Not != x.Not) = false := by simp
  have h2 : (x.Least != x.Least) = false := by simp
  have h3 : (x.Most != x.Most) = false := by simp
  have h4 : ((x.Ranges.length : Int) != (x.Ranges.length : Int)) = false := by simp
  unfold calqueref44_sameItem
  simp only [ht, h1, h2, h3, h4, cond_false]
  refine (iter_atB (fun k : Nat => (k : Int)) x.Ranges.length (.inl ()) rfl hN (fun k hk => ?_) ?_).trans rfl
  · obtain ⟨g, hg⟩ := at_lt hk
    simp [calqueref44_sameItem_b1, ixg hg, getlt hg]
  · simp only [calqueref44_sameItem_b1, dn, cond_false]
theorem Same_eq {N : Nat} {s : List State} (hs : Sz N s) : calqueref44_Same N s s = some true := by
  have h0 : ((s.length : Int) != (s.length : Int)) = false := by simp
  unfold calqueref44_Same
  simp only [h0, cond_false]
  refine (iter_atB (fun k : Nat => (k : Int)) s.length (.inl ()) rfl hs.1 (fun i hi => ?_) ?_).trans rfl
  · obtain ⟨x, hx⟩ := at_lt hi
    have hz := hs.2 x (List.mem_of_getElem? hx)
    have h1 : (x.Name != x.Name) = false := by simp
    have h2 : ((x.Rules.length : Int) != (x.Rules.length : Int)) = false := by simp
    simp only [calqueref44_Same_b1, dk hi, cond_true, ixg hx, Option.bind_some, h1, h2, cond_false]
    refine (iter_atB (fun k : Nat => (k : Int)) x.Rules.length (.inl ()) rfl hz.2.1 (fun k hk => ?_) ?_).trans rfl
    · obtain ⟨r, hr⟩ := at_lt hk
      have hq := (hz.2.2 r (List.mem_of_getElem? hr)).2.2
      have g1 : (r.Kind != r.Kind) = false := by simp
      have g2 : (r.Next != r.Next) = false := by simp
      have g3 : ((r.Items.length : Int) != (r.Items.length : Int)) = false := by simp
      simp only [calqueref44_Same_b2, ixg hx, dk hk, cond_true, ixg hr, Option.bind_some, g1, g2, g3, cond_false]
      refine (iter_atB (fun k : Nat => (k : Int)) r.Items.length (.inl ()) rfl hq.1 (fun j hj => ?_) ?_).trans rfl
      · obtain ⟨y, hy⟩ := at_lt hj
        simp only [calqueref44_Same_b3, dk hj, cond_true, ixg hy, Option.bind_some, same_item (hq.2 y (List.mem_of_getElem? hy)).2, Bool.not_true, cond_false]
        rfl
      · simp only [calqueref44_Same_b3, dn, cond_false]
    · simp only [calqueref44_Same_b2, ixg hx, Option.bind_some, dn, cond_false]
  · simp only [calqueref44_Same_b1, dn, cond_false]
theorem theirs_eq {N : Nat} {s : List State} (hN : N ≤ 4000000000) (hs : Sz N s) : calquelaw44_theirs N s = some s := by
  unfold calquelaw44_theirs
  refine (iter_atB (fun k : Nat => (s.take k, (k : Int))) s.length s rfl hs.1 (fun i hi => ?_) ?_).trans rfl
  · obtain ⟨x, hx⟩ := at_lt hi
    have hz := hs.2 x (List.mem_of_getElem? hx)
    simp only [calquelaw44_theirs_b1, dk hi, cond_true, ixg hx, Option.bind_some]
    refine (iter_atB (fun k : Nat => ((k : Int), State.mk x.Name (x.Rules.take k))) x.Rules.length x rfl hz.2.1 (fun k hk => ?_) ?_).trans ?_
    · obtain ⟨r, hr⟩ := at_lt hk
      have hq := (hz.2.2 r (List.mem_of_getElem? hr)).2.2
      simp only [calquelaw44_theirs_b2, ixg hx, Option.bind_some, dk hk, cond_true, ixg hr]
      refine (iter_atB (fun j : Nat => ((j : Int), Rule.mk r.Kind (r.Items.take j) r.Next)) r.Items.length r rfl hq.1 (fun j hj => ?_) ?_).trans ?_
      · obtain ⟨y, hy⟩ := at_lt hj
        have hyz := hq.2 y (List.mem_of_getElem? hy)
        simp only [calquelaw44_theirs_b3, ixg hx, ixg hr, Option.bind_some, dk hj, cond_true, ixg hy]
        refine (iter_atB (fun m : Nat => ((m : Int), Item.mk y.Text (y.Ranges.take m) y.Not y.Least y.Most)) y.Ranges.length y rfl hyz.2 (fun m hm => ?_) ?_).trans ?_
        · obtain ⟨g, hg⟩ := at_lt hm
          simp only [calquelaw44_theirs_b4, dk hm, cond_true, ixg hg, Option.bind_some]
          rw [app1 (by have := hyz.2; simp; omega), take1 hg]
          rfl
        · simp only [calquelaw44_theirs_b4, dn, cond_false, List.take_length]
        · rw [app1 (by have := hq.1; simp; omega), take1 hy]
          rfl
      · simp only [calquelaw44_theirs_b3, ixg hx, ixg hr, Option.bind_some, dn, cond_false, List.take_length]
      · rw [app1 (by have := hz.2.1; simp; omega), take1 hr]
        rfl
    · simp only [calquelaw44_theirs_b2, ixg hx, Option.bind_some, dn, cond_false, List.take_length]
    · rw [app1 (by have := hs.1; simp; omega), take1 hx]
      rfl
  · simp only [calquelaw44_theirs_b1, dn, cond_false, List.take_length]
end Go.Proofs.Ytmmioinglmeoiaa
namespace Go.Proofs.Ytmmioinglmeoiaa
open Go.X
theorem esc_all : ((List.range 256).all fun c => (esc true c).all (fun d => decide (32 ≤ d.toNat)) && (esc false c).all (fun d => decide (32 ≤ d.toNat))) = true := by kernel_rfl
theorem esc_ge {br : Bool} {c : Nat} (hc : c < 256) : ∀ d ∈ esc br c, 32 ≤ d.toNat := by
  have := List.all_eq_true.1 esc_all c (List.mem_range.2 hc)
  simp only [Bool.and_eq_true, List.all_eq_true, decide_eq_true_eq] at this
  cases br with
  | true => exact this.1
  | false => exact this.2
def Hi (w : Str) : Prop := ∀ d ∈ w, 32 ≤ d.toNat
theorem Hi.app {a b : Str} (ha : Hi a) (hb : Hi b) : Hi (a ++ b) := fun d hd => (List.mem_append.1 hd).elim (ha d) (hb d)
theorem Hi.flat {α : Type} {f : α → Str} {l : List α} (h : ∀ x ∈ l, Hi (f x)) : Hi (l.flatMap f) := fun d hd => by
  obtain ⟨x, hx, hd⟩ := List.mem_flatMap.1 hd
  exact h x hx d hd
theorem Hi.lit {w : Str} (h : w.all (fun d => decide (32 ≤ d.toNat)) = true) : Hi w := fun d hd => by simpa using List.all_eq_true.1 h d hd
theorem Hi.word {w : Str} (h : word w = true) : Hi w := fun d hd => by
  unfold Go.Proofs.Ytmmioinglmeoiaa.word at h
  simp only [Bool.and_eq_true, List.all_eq_true, decide_eq_true_eq] at h
  have := h.1 d hd
  omega
theorem range_hi {g : Range} (h : InR .u8 g.From ∧ InR .u8 g.To) : Hi (rangeT g) := by
  obtain ⟨f, h1, h2, h3⟩ := inr8 h.1
  obtain ⟨t, g1, g2, g3⟩ := inr8 h.2
  unfold rangeT
  rw [h3, g3]
  refine Hi.app (esc_ge h2) ?_
  split
  · exact fun d hd => by cases hd
  · intro d hd
    rcases List.mem_cons.1 hd with rfl | hd
    · decide
    · exact esc_ge g2 d hd
theorem item_hi {x : Item} (h : InB x) : Hi (itemT x) := by
  unfold itemT
  refine Hi.app ?_ ?_
  · unfold bodyT
    split
    · refine ((Hi.lit rfl).app ?_).app (Hi.flat fun g hg => range_hi (h g hg)) |>.app (Hi.lit rfl)
      cases x.Not
      · exact fun d hd => by cases hd
      · exact Hi.lit rfl
    · exact ((Hi.lit rfl).app (Hi.flat fun c _ => esc_ge (u8lt c))).app (Hi.lit rfl)
  · unfold markT
    repeat' split
    all_goals first | exact Hi.lit rfl | exact fun d hd => by cases hd
theorem line_hi {r : Rule} (h : Good r) : Hi (lineT r) := by
  unfold lineT
  refine ((Hi.word h.1.1).app (Hi.flat fun x hx => ?_)).app ?_
  · intro d hd
    rcases List.mem_cons.1 hd with rfl | hd
    · decide
    · exact item_hi (h.2.2 x hx) d hd
  · split
    · exact fun d hd => by cases hd
    · rename_i h0
      exact (Hi.lit rfl).app (Hi.word (h.2.1.resolve_left h0))
theorem Hi.no {w : Str} (h : Hi w) : (10 : UInt8) ∉ w := fun hm => by have := h 10 hm; simp at this
theorem line_noSt {r : Rule} (h : Good r) : isSt (lineT r) = false := by
  cases hs : isSt (lineT r) with
  | false => rfl
  | true =>
    exfalso
    unfold isSt at hs
    simp only [Bool.and_eq_true] at hs
    obtain ⟨t, ht⟩ := List.isPrefixOf_iff_prefix.1 hs.1
    have hd : (lineT r).drop 6 = t := by rw [← ht]; rfl
    rw [hd] at hs
    have hI := h.1.2.1
    obtain ⟨x, l, hx⟩ : ∃ x l, r.Items = x :: l := by
      cases hr : r.Items with
      | nil => rw [hr] at hI; simp at hI
      | cons x l => exact ⟨x, l, rfl⟩
    obtain ⟨d, u, e1, e2⟩ := itemT_head x []
    have hm : d ∈ lineT r := by
      unfold lineT
      rw [hx]
      simp only [List.flatMap_cons, List.mem_append, List.mem_cons]
      rw [List.append_nil] at e1
      rw [e1]
      simp
    rw [← ht] at hm
    rcases List.mem_append.1 hm with hm | hm
    · rcases e2 with rfl | rfl <;> revert hm <;> decide
    · exact word_no hs.2 d (by rcases e2 with rfl | rfl <;> decide) hm
def linesS (x : State) : List Str := (stT ++ x.Name) :: x.Rules.map lineT
theorem text_lines (s : List State) : textT s = (s.flatMap linesS).flatMap (fun l => l ++ [10]) := by
  unfold textT
  rw [List.flatMap_assoc]
  congr 1
  funext x
  simp [stateT, linesS, List.flatMap_map]
theorem lns_lines : ∀ (ls : List Str), (∀ l ∈ ls, (10 : UInt8) ∉ l) → lns [] (ls.flatMap (fun l => l ++ [10])) = (ls, []) := by
  intro ls
  induction ls with
  | nil => intro _; rfl
  | cons l ls ih =>
    intro h
    rw [List.flatMap_cons, List.append_assoc]
    have := lns_some l [] (ls.flatMap (fun l => l ++ [10])) (h l (List.mem_cons_self ..))
    rw [List.nil_append] at this
    rw [show l ++ ([10] ++ ls.flatMap (fun l => l ++ [10])) = l ++ 10 :: ls.flatMap (fun l => l ++ [10]) from rfl, this, ih (fun x hx => h x (List.mem_cons_of_mem _ hx))]
theorem good_len {r : Rule} (h : Good r) : (lineT r).length ≤ 1000000 := by have := lineT_len h.1 h.next; omega
theorem step_rule {out : List State} {nm : Str} {rs : List Rule} {r : Rule} (h : Good r) : stepL (out ++ [State.mk nm rs]) (lineT r) = some (out ++ [State.mk nm (rs ++ [r])]) := by
  unfold stepL
  rw [line_noSt h, if_neg (by decide), (lineR_iff (good_len h)).2 ⟨h, rfl⟩]
  simp
theorem run_rules (nm : Str) (rest : List Str) : ∀ (l rs : List Rule) (out : List State) (n : Nat), (∀ r ∈ l, Good r) → runL (l.map lineT ++ rest) (out ++ [State.mk nm rs]) n = runL rest (out ++ [State.mk nm (rs ++ l)]) (n + l.length) := by
  intro l
  induction l with
  | nil => intro rs out n _; simp
  | cons r l ih =>
    intro rs out n h
    simp only [List.map_cons, List.cons_append, runL, step_rule (h r (List.mem_cons_self ..))]
    rw [ih _ _ _ (fun x hx => h x (List.mem_cons_of_mem _ hx))]
    simp only [List.append_assoc, List.cons_append, List.nil_append, List.length_cons]
    rw [show n + 1 + l.length = n + (l.length + 1) by omega]
theorem run_states : ∀ (s out : List State) (n : Nat), (∀ x ∈ s, word x.Name = true ∧ ∀ r ∈ x.Rules, Good r) → ∃ m, runL (s.flatMap linesS) out n = .inl (out ++ s, m) := by
  intro s
  induction s with
  | nil => intro out n _; exact ⟨n, by simp [runL]⟩
  | cons x s ih =>
    intro out n h
    obtain ⟨hw, hr⟩ := h x (List.mem_cons_self ..)
    have hst : stepL out (stT ++ x.Name) = some (out ++ [State.mk x.Name []]) := by
      unfold stepL
      have : isSt (stT ++ x.Name) = true := by
        unfold isSt
        rw [List.isPrefixOf_iff_prefix.2 (List.prefix_append _ _)]
        simp [hw]
      rw [if_pos this]
      simp
    have e : (x :: s).flatMap linesS = (stT ++ x.Name) :: (x.Rules.map lineT ++ s.flatMap linesS) := rfl
    rw [e]
    unfold runL
    rw [hst]
    simp only
    rw [run_rules x.Name _ _ _ _ _ hr]
    obtain ⟨m, hm⟩ := ih (out ++ [State.mk x.Name ([] ++ x.Rules)]) (n + 1 + x.Rules.length) (fun y hy => h y (List.mem_cons_of_mem _ hy))
    refine ⟨m, hm.trans ?_⟩
    simp
theorem vs_good {s : List State} (hv : Vs s) (hb : Sb s) : ∀ x ∈ s, word x.Name = true ∧ ∀ r ∈ x.Rules, Good r := fun x hx =>
  ⟨hv.name x hx, fun r hr => ⟨(hv.rl x hx r hr).1, (hv.rl x hx r hr).2.imp id (fun h => by
    obtain ⟨y, hy, e⟩ := List.mem_map.1 h
    rw [← e]; exact hv.name y hy), hb x hx r hr⟩⟩
theorem vl_lines {s : List State} (hv : Vl s) (hsb : Sb s) : lns [] (textT s) = (s.flatMap linesS, []) ∧ ∃ m, runL (lns [] (textT s)).1 [] 0 = .inl (s, m) := by
  have hg := vs_good hv.1 hsb
  have hl : lns [] (textT s) = (s.flatMap linesS, []) := by
    rw [text_lines]
    refine lns_lines _ (fun l hl => ?_)
    obtain ⟨x, hx, hl⟩ := List.mem_flatMap.1 hl
    rcases List.mem_cons.1 hl with rfl | hl
    · exact ((Hi.lit rfl).app (Hi.word (hg x hx).1)).no
    · obtain ⟨r, hr, rfl⟩ := List.mem_map.1 hl
      exact (line_hi ((hg x hx).2 r hr)).no
  obtain ⟨m, hm⟩ := run_states s [] 0 hg
  rw [List.nil_append] at hm
  exact ⟨hl, m, by rw [hl]; exact hm⟩
theorem scanPrint_law (s : List State) (h : ScOk s) : ∃ N, calquelaw44_ScanPrint N s = some true := by
  have hsb := h.sb
  by_cases hv : Vl s
  · obtain ⟨hl, m, hm⟩ := vl_lines hv hsb
    obtain ⟨c, p1, p2, p3⟩ := parse_both (N := 100000 + 300) (s := textT s) (by have := hv.2; omega) (by have := hv.2; omega)
    have hp3 := p3 s m hm
    have hz : Sz (100000 + 300) s := hp3.1.sz (by have := hv.2; omega)
    have hc : c = true := hp3.2.2 hv
    refine ⟨100000 + 300, ?_⟩
    unfold calquelaw44_ScanPrint
    simp only [awake_true, Option.bind_some, Bool.not_true, cond_false]
    obtain ⟨b, hb⟩ := Few_some hz
    simp only [hb, Option.bind_some]
    cases b with
    | false => rfl
    | true =>
      simp only [Bool.not_true, cond_false, Own_eq h hz, Option.bind_some]
      unfold scan_Print calqueref44_Print
      obtain ⟨v, g1, g2⟩ := scan_Valid_eq hz hsb (by omega : 100 ≤ 100000 + 300)
      obtain ⟨v', g3, g4⟩ := ref_Valid_eq hz hsb (by omega : 100 ≤ 100000 + 300)
      obtain rfl : v = true := g2.2 hv
      obtain rfl : v' = true := g4.2 hv
      rw [g1, g3]
      simp only [Option.bind_some, Bool.not_true, cond_false, scan_text_eq hv.1 hsb (by omega : 100 ≤ 100000 + 300), ref_text_eq hv.1 hsb (by omega : 100 ≤ 100000 + 300), p1]
      have hp : parR c (textT s) = (s, 0, 0) := by
        unfold parR
        rw [hm, hc, hl]
        rfl
      rw [hp]
      have e1 : (textT s != textT s) = false := by simp
      have e2 : ((0 : Int) != 0) = false := rfl
      have e3 : ((true : Bool) != true) = false := rfl
      have e4 : ((0 : Int) == 0) = true := rfl
      simp only [e1, e2, e3, e4, cond_false, cond_true, theirs_eq (by omega) hz, Same_eq hz, Option.bind_some]
  · obtain ⟨n, hn⟩ : ∃ n, n = sz s + 30000 := ⟨_, rfl⟩
    refine ⟨n + 300, ?_⟩
    have hz : Sz (n + 300) s := Sz.of (by omega)
    unfold calquelaw44_ScanPrint
    simp only [awake_true, Option.bind_some, Bool.not_true, cond_false]
    obtain ⟨b, hb⟩ := Few_some hz
    simp only [hb, Option.bind_some]
    cases b with
    | false => rfl
    | true =>
      simp only [Bool.not_true, cond_false, Own_eq h hz, Option.bind_some]
      unfold scan_Print calqueref44_Print
      obtain ⟨v, g1, g2⟩ := scan_Valid_eq hz hsb (by omega : 100 ≤ n + 300)
      obtain ⟨v', g3, g4⟩ := ref_Valid_eq hz hsb (by omega : 100 ≤ n + 300)
      have q1 : v = false := by cases v with | false => rfl | true => exact absurd (g2.1 rfl) hv
      have q2 : v' = false := by cases v' with | false => rfl | true => exact absurd (g4.1 rfl) hv
      subst q1; subst q2
      obtain ⟨c, p1, p2, p3⟩ := parse_both (N := n + 300) (s := []) (by simp) (by simp; omega)
      rw [g1, g3]
      simp only [Option.bind_some, Bool.not_false, cond_true, p1]
      rfl
end Go.Proofs.Ytmmioinglmeoiaa
