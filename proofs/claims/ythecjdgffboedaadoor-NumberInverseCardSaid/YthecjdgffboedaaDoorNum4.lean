/- Numbers: Format: the program's and the reference's are one function; the laws on formats and styles. -/
import Derived.Test.YthecjdgffboedaaDoorNum3
import Derived.Test.YthecjdgffboedaaDoorExt15d
namespace Go.Proofs.YthecjdgffboedaaDoor
open Go.X

def sInt : List UInt8 := [105, 110, 116, 101, 103, 101, 114]
def sPct : List UInt8 := [112, 101, 114, 99, 101, 110, 116]
def put (x : Symbols) (r : List UInt8 × Int) (e : List UInt8) : List UInt8 × Int := if r.2 = 0 then (txt x r.1 ++ e, 0) else ([], r.2)
def fmt (x : Symbols) (n st : List UInt8) : List UInt8 × Int :=
  if vld n = true ∧ (st = [] ∨ st = sInt ∨ st = sPct) then
    if x.Decimal = [] then ([], 18)
    else if st = sInt then put x (rnd n) [] else if st = sPct then put x (shf n) x.Percent else put x (n, 0) []
  else ([], 1)

theorem dec_nil (x : Symbols) : (x.Decimal == []) = decide (x.Decimal = []) := beq_nil _
section
variable {N : Nat} {x : Symbols} {n : List UInt8}

theorem put_prog (hx : Few x) {s e : List UInt8} {z : Int} (hs : z = 0 → s.length ≤ 1000) (he : e.length ≤ 20) (hN : 3000 ≤ N) :
    (bif (z != 0) then some ([], z) else (number_text N x s).bind fun r51 => (cat r51 e).bind fun s54 => some (s54, 0)) = some (put x (s, z) e) := by
  unfold put
  by_cases hz : z = 0
  · subst hz
    rw [prog_text hx (hs rfl) hN, if_pos rfl]
    have := txt_len (s := s) hx
    have := hs rfl
    simp only [Option.bind_some, show ((0 : Int) != 0) = false from rfl, cond_false]
    rw [cat_some (by omega)]
    rfl
  · rw [if_neg hz, show (z != 0) = true from by rw [bne_iff_ne]; exact hz, cond_true]
theorem put_ref (hx : Few x) {s e : List UInt8} {z : Int} (hs : z = 0 → vld s = true ∧ s.length ≤ 1000) (he : e.length ≤ 20) (hN : 3000 ≤ N) :
    (bif (z != 0) then some ([], z) else (calqueref15_Text N x s).bind fun r51 => (cat r51 e).bind fun s54 => some (s54, 0)) = some (put x (s, z) e) := by
  unfold put
  by_cases hz : z = 0
  · subst hz
    rw [ref_text hx (hs rfl).2 (hs rfl).1 hN, if_pos rfl]
    have := txt_len (s := s) hx
    have := (hs rfl).2
    simp only [Option.bind_some, show ((0 : Int) != 0) = false from rfl, cond_false]
    rw [cat_some (by omega)]
    rfl
  · rw [if_neg hz, show (z != 0) = true from by rw [bne_iff_ne]; exact hz, cond_true]

theorem prog_Format {l : Locale} (hl : l.Symbols = x) (hx : Few x) (hn : n.length ≤ 1000) (hN : 3000 ≤ N) (st : List UInt8) : number_Format N l n st = some (fmt x n st) := by
  unfold number_Format fmt
  rw [decimal_Valid_eq hn, hl]
  cases hv : vld n with
  | false => simp
  | true =>
    simp only [Option.bind_some, Bool.not_true, cond_false, true_and]
    by_cases h0 : st = []
    · subst h0
      simp only [show (([] : List UInt8) != []) = false from rfl, cond_false, true_or, if_true, show (([] : List UInt8) == [105, 110, 116, 101, 103, 101, 114]) = false from rfl, show (([] : List UInt8) == [112, 101, 114, 99, 101, 110, 116]) = false from rfl, Option.bind_some, dec_nil]
      rw [if_neg (show ¬ ([] : List UInt8) = sInt by decide), if_neg (show ¬ ([] : List UInt8) = sPct by decide)]
      by_cases hd : x.Decimal = []
      · rw [decide_eq_true hd, if_pos hd]; rfl
      · rw [decide_eq_false hd, if_neg hd, cond_false]
        exact put_prog hx (fun _ => hn) (by simp) hN
    by_cases h1 : st = sInt
    · subst h1
      simp only [show (sInt != []) = true from rfl, show (sInt != [105, 110, 116, 101, 103, 101, 114]) = false from rfl, cond_true, cond_false, true_or, or_true, if_true, show (sInt == [105, 110, 116, 101, 103, 101, 114]) = true from rfl, dec_nil]
      by_cases hd : x.Decimal = []
      · rw [decide_eq_true hd, if_pos hd]; rfl
      · rw [decide_eq_false hd, if_neg hd, cond_false, prog_Round hn hv]
        exact put_prog hx (s := (rnd n).1) (z := (rnd n).2) (fun h => by have := (rnd_vld hv h).2; omega) (by simp) hN
    by_cases h2 : st = sPct
    · subst h2
      simp only [show (sPct != []) = true from rfl, show (sPct != [105, 110, 116, 101, 103, 101, 114]) = true from rfl, show (sPct != [112, 101, 114, 99, 101, 110, 116]) = false from rfl, cond_true, cond_false, or_true, if_true, show (sPct == [105, 110, 116, 101, 103, 101, 114]) = false from rfl, show (sPct == [112, 101, 114, 99, 101, 110, 116]) = true from rfl, dec_nil]
      rw [if_neg (show ¬ sPct = sInt by decide)]
      by_cases hd : x.Decimal = []
      · rw [decide_eq_true hd, if_pos hd]; rfl
      · rw [decide_eq_false hd, if_neg hd, cond_false, prog_Shift hn hv]
        exact put_prog hx (s := (shf n).1) (z := (shf n).2) (fun h => by have := (shf_vld hv h).2; omega) hx.p hN
    · have e0 : (st != []) = true := by rw [bne_iff_ne]; exact h0
      have e1 : (st != [105, 110, 116, 101, 103, 101, 114]) = true := by rw [bne_iff_ne]; exact h1
      have e2 : (st != [112, 101, 114, 99, 101, 110, 116]) = true := by rw [bne_iff_ne]; exact h2
      simp only [e0, e1, e2, cond_true, h0, h1, h2, or_self, if_false]

theorem ref_Format {l : Locale} (hl : l.Symbols = x) (hx : Few x) (hn : n.length ≤ 1000) (hN : 3000 ≤ N) (st : List UInt8) : calqueref15_Format N l n st = some (fmt x n st) := by
  unfold calqueref15_Format fmt
  rw [ref_Valid_eq hn hN, hl]
  cases hv : vld n with
  | false => simp
  | true =>
    simp only [Option.bind_some, Bool.not_true, cond_false, true_and]
    by_cases h0 : st = []
    · subst h0
      simp only [show (([] : List UInt8) != []) = false from rfl, cond_false, true_or, if_true, show (([] : List UInt8) == [105, 110, 116, 101, 103, 101, 114]) = false from rfl, show (([] : List UInt8) == [112, 101, 114, 99, 101, 110, 116]) = false from rfl, Option.bind_some, dec_nil]
      rw [if_neg (show ¬ ([] : List UInt8) = sInt by decide), if_neg (show ¬ ([] : List UInt8) = sPct by decide)]
      by_cases hd : x.Decimal = []
      · rw [decide_eq_true hd, if_pos hd]; rfl
      · rw [decide_eq_false hd, if_neg hd, cond_false]
        exact put_ref hx (fun _ => ⟨hv, hn⟩) (by simp) hN
    by_cases h1 : st = sInt
    · subst h1
      simp only [show (sInt != []) = true from rfl, show (sInt != [105, 110, 116, 101, 103, 101, 114]) = false from rfl, cond_true, cond_false, true_or, or_true, if_true, show (sInt == [105, 110, 116, 101, 103, 101, 114]) = true from rfl, dec_nil]
      by_cases hd : x.Decimal = []
      · rw [decide_eq_true hd, if_pos hd]; rfl
      · rw [decide_eq_false hd, if_neg hd, cond_false, ref_Round hn hv hN]
        exact put_ref hx (s := (rnd n).1) (z := (rnd n).2) (fun h => ⟨(rnd_vld hv h).1, by have := (rnd_vld hv h).2; omega⟩) (by simp) hN
    by_cases h2 : st = sPct
    · subst h2
      simp only [show (sPct != []) = true from rfl, show (sPct != [105, 110, 116, 101, 103, 101, 114]) = true from rfl, show (sPct != [112, 101, 114, 99, 101, 110, 116]) = false from rfl, cond_true, cond_false, or_true, if_true, show (sPct == [105, 110, 116, 101, 103, 101, 114]) = false from rfl, show (sPct == [112, 101, 114, 99, 101, 110, 116]) = true from rfl, dec_nil]
      rw [if_neg (show ¬ sPct = sInt by decide)]
      by_cases hd : x.Decimal = []
      · rw [decide_eq_true hd, if_pos hd]; rfl
      · rw [decide_eq_false hd, if_neg hd, cond_false, ref_Shift hn hv hN]
        exact put_ref hx (s := (shf n).1) (z := (shf n).2) (fun h => ⟨(shf_vld hv h).1, by have := (shf_vld hv h).2; omega⟩) hx.p hN
    · have e0 : (st != []) = true := by rw [bne_iff_ne]; exact h0
      have e1 : (st != [105, 110, 116, 101, 103, 101, 114]) = true := by rw [bne_iff_ne]; exact h1
      have e2 : (st != [112, 101, 114, 99, 101, 110, 116]) = true := by rw [bne_iff_ne]; exact h2
      simp only [e0, e1, e2, cond_true, h0, h1, h2, or_self, if_false]
end

/-! ### the laws -/
theorem few_eq {N : Nat} {x : Symbols} (hx : SymOk x) : calqueref15_Few N x = some true ∧ Few x ∨ calqueref15_Few N x = some false := by
  unfold calqueref15_Few
  by_cases hf1 : (x.Decimal.length : Int) ≤ 20
  case neg => right; simp only [decide_eq_false hf1, cond_false]
  by_cases hf2 : (x.Group.length : Int) ≤ 20
  case neg => right; simp only [decide_eq_true hf1, decide_eq_false hf2, cond_false, cond_true]
  by_cases hf3 : (x.Minus.length : Int) ≤ 20
  case neg => right; simp only [decide_eq_true hf1, decide_eq_true hf2, decide_eq_false hf3, cond_false, cond_true]
  by_cases hf4 : (x.Percent.length : Int) ≤ 20
  case neg => right; simp only [decide_eq_true hf1, decide_eq_true hf2, decide_eq_true hf3, decide_eq_false hf4, cond_true]
  left
  simp only [decide_eq_true hf1, decide_eq_true hf2, decide_eq_true hf3, decide_eq_true hf4, cond_true, true_and]
  exact ⟨hx, by omega, by omega, by omega, by omega⟩

theorem numberFormat_pure (x : Symbols) (n st : List UInt8) (hx : SymOk x) (_ : n.length ≤ LIMS) (_ : st.length ≤ LIMS) : ∃ N, calquelaw15_NumberFormat N x n st = some true := by
  refine ⟨0 + 3000, ?_⟩
  have ha := awake_eq 0
  unfold calquelaw15_NumberFormat
  rw [ha]
  simp only [Option.bind_some, Bool.not_true, cond_false]
  rcases few_eq (N := 0 + 3000) hx with ⟨hf, hx⟩ | hf
  · rw [hf]
    simp only [Option.bind_some, Bool.not_true, cond_false]
    by_cases h1 : (n.length : Int) > 60
    · simp only [decide_eq_true h1, cond_true]
    by_cases h2 : (st.length : Int) > 60
    · simp only [decide_eq_false h1, decide_eq_true h2, cond_true, cond_false]
    simp only [decide_eq_false h1, decide_eq_false h2, cond_false]
    rw [prog_Format rfl hx (by omega) (by omega), Option.bind_some, ref_Format rfl hx (by omega) (by omega), Option.bind_some]
    simp
  · rw [hf]; rfl

theorem vld_len {s : List UInt8} (h : vld s = true) : s.length ≤ 30 := by
  obtain ⟨_, p2, _, p4, _⟩ := vld_parts h
  have h1 : s.length ≤ (bod s).length + 1 := by
    unfold bod
    split
    · rw [List.length_drop]; omega
    · omega
  have h2 : (bod s).length ≤ (wh s).length + (fr s).length + 1 := by
    have := scan_le (fun l => ([46] : List UInt8).isPrefixOf l) (bod s)
    unfold wh fr pt fnd
    rw [List.length_take]
    split
    · rw [List.length_drop]; omega
    · rename_i h3
      have := of_decide_eq_false (Bool.eq_false_iff.2 h3)
      simp only [List.length_nil]; omega
  omega
theorem fmt_int (x : Symbols) {n : List UInt8} (h : vld n = true) : fmt x n sInt = if x.Decimal = [] then ([], 18) else put x (rnd n) [] := by
  unfold fmt
  rw [if_pos ⟨h, .inr (.inl rfl)⟩, if_pos rfl]
theorem fmt_pct (x : Symbols) {n : List UInt8} (h : vld n = true) : fmt x n sPct = if x.Decimal = [] then ([], 18) else put x (shf n) x.Percent := by
  unfold fmt
  rw [if_pos ⟨h, .inr (.inr rfl)⟩, if_neg (show ¬ sPct = sInt by decide), if_pos rfl]
theorem fmt_nil {x : Symbols} {n : List UInt8} (h : vld n = true) (hd : x.Decimal ≠ []) : fmt x n [] = (txt x n, 0) := by
  unfold fmt
  rw [if_pos ⟨h, .inl rfl⟩, if_neg hd, if_neg (show ¬ ([] : List UInt8) = sInt by decide), if_neg (show ¬ ([] : List UInt8) = sPct by decide)]
  simp [put]

theorem numberStyles_pure (x : Symbols) (n : List UInt8) (hx : SymOk x) (hn : n.length ≤ LIMS) : ∃ N, calquelaw15_NumberStyles N x n = some true := by
  refine ⟨n.length + 3000, ?_⟩
  have ha := awake_eq n.length
  have hN : 3000 ≤ n.length + 3000 := by omega
  have hNv : n.length + 1000 ≤ n.length + 3000 := by omega
  generalize n.length + 3000 = N at *
  unfold calquelaw15_NumberStyles
  rw [ha]
  simp only [Option.bind_some, Bool.not_true, cond_false]
  rcases few_eq (N := N) hx with ⟨hf, hx⟩ | hf
  case inr => rw [hf]; rfl
  rw [hf]
  simp only [Option.bind_some, Bool.not_true, cond_false]
  rw [ref_Valid_big hn hNv]
  cases hv : vld n with
  | false => rfl
  | true =>
    have hl := vld_len hv
    simp only [Option.bind_some, Bool.not_true, cond_false]
    rw [ref_Round (by omega) hv hN, Option.bind_some, prog_Format rfl hx (by omega) hN, Option.bind_some, ref_Shift (by omega) hv hN, Option.bind_some, prog_Format rfl hx (by omega) hN, Option.bind_some]
    rw [show fmt x n [105, 110, 116, 101, 103, 101, 114] = fmt x n sInt from rfl, show fmt x n [112, 101, 114, 99, 101, 110, 116] = fmt x n sPct from rfl, fmt_int x hv, fmt_pct x hv, dec_nil]
    by_cases hd : x.Decimal = []
    · rw [decide_eq_true hd, if_pos hd, if_pos hd]; rfl
    · rw [decide_eq_false hd, if_neg hd, if_neg hd, cond_false]
      have e1 : (put x (rnd n) []).2 = (rnd n).2 := by unfold put; split <;> simp_all
      have e2 : (put x (shf n) x.Percent).2 = (shf n).2 := by unfold put; split <;> simp_all
      rw [e1, e2]
      simp only [bne_self_eq_false, cond_false]
      have e3 : (bif (rnd n).2 == 0 then (number_Format N (Locale.mk [] [] [] [] [] x [] [] [] [] []) (rnd n).1 []).bind fun r48 => bif r48.2 != 0 then some (Sum.inr false) else bif r48.1 != (put x (rnd n) []).1 then some (Sum.inr false) else some (Sum.inl ()) else some (Sum.inl ())) = some (Sum.inl () : Unit ⊕ Bool) := by
        by_cases h0 : (rnd n).2 = 0
        · obtain ⟨v1, v2⟩ := rnd_vld hv h0
          rw [show ((rnd n).2 == 0) = true from by rw [h0]; rfl, cond_true, prog_Format rfl hx (by omega) hN, Option.bind_some, fmt_nil v1 hd]
          unfold put
          rw [if_pos h0]
          simp
        · rw [show ((rnd n).2 == 0) = false from by rw [beq_eq_false_iff_ne]; exact h0, cond_false]
      rw [e3]
      simp only [Option.bind_some, Sum.elim_inl]
      by_cases h0 : (shf n).2 = 0
      · obtain ⟨v1, v2⟩ := shf_vld hv h0
        have htl := txt_len (s := (shf n).1) hx
        have hp := hx.p
        rw [show ((shf n).2 == 0) = true from by rw [h0]; rfl, cond_true, prog_Format rfl hx (by omega) hN, Option.bind_some, fmt_nil v1 hd]
        simp only [beq_self_eq_true, cond_true]
        rw [cat_some (by omega), Option.bind_some]
        unfold put
        rw [if_pos h0]
        simp
      · rw [show ((shf n).2 == 0) = false from by rw [beq_eq_false_iff_ne]; exact h0, cond_false]
end Go.Proofs.YthecjdgffboedaaDoor
