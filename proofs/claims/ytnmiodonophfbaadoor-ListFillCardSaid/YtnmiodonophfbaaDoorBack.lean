/- slices.Backward over strings: the contract of its closure, for every loop body that keeps what lay below n₀. -/
import Derived.Test.YtnmiodonophfbaaDoorLibX
import Derived.Test.YtnmiodonophfbaaDoorWalk16a
import Derived.RangeFuncBox
import Derived.RangeFuncLeaves
import Derived.Shelf.Abstract
import Derived.WalkKit
import Derived.OwnWalkIn
import Derived.TacticsInMore
import Derived.LoopNIn
import Derived.LoopIn
import Derived.Test.YtnmiodonophfbaaDoorChecked
namespace Go.Proofs.YtnmiodonophfbaaDoor
open Go.RowKit Go.Shelf Go.X Go.Proofs

attribute [local go_sem] Oper.semAt_some

/-- What has come when k rounds are over: the last element first. -/
abbrev Bp (M : Nat) : Type := { x : Nat × List UInt8 // x.2.length ≤ M }
def bk {M : Nat} (zs : List (List UInt8)) (hM : ∀ k : Nat, (zs[k]?.getD []).length ≤ M) (k : Nat) : List (Bp M) := (List.range k).map fun j => ⟨(zs.length - 1 - j, zs[zs.length - 1 - j]?.getD []), hM _⟩
theorem bk_succ {M : Nat} (zs : List (List UInt8)) (hM : ∀ k : Nat, (zs[k]?.getD []).length ≤ M) (k : Nat) : bk zs hM (k + 1) = bk zs hM k ++ [⟨(zs.length - 1 - k, zs[zs.length - 1 - k]?.getD []), hM _⟩] := by simp [bk, List.range_succ]
theorem bk_length {M : Nat} (zs : List (List UInt8)) (hM : ∀ k : Nat, (zs[k]?.getD []).length ≤ M) (k : Nat) : (bk zs hM k).length = k := by simp [bk]

/-- Two blocks lie as they lay. -/
def Keep2 (p q : Nat) (A B : World) : Prop := B.heap[p]? = A.heap[p]? ∧ B.heap[q]? = A.heap[q]?
theorem Keep2.refl (p q : Nat) (A : World) : Keep2 p q A A := ⟨rfl, rfl⟩
theorem Keep2.trans {p q : Nat} {A B C : World} (h : Keep2 p q A B) (k : Keep2 p q B C) : Keep2 p q A C := ⟨k.1.trans h.1, k.2.trans h.2⟩
theorem cell_block {A B : World} {x : Addr} (h : B.heap[x.block]? = A.heap[x.block]?) : B.cell? x = A.cell? x := by unfold World.cell?; rw [h]
theorem Keep2.cell1 {p q : Nat} {A B : World} (h : Keep2 p q A B) (o : Nat) : B.cell? ⟨p, o, none⟩ = A.cell? ⟨p, o, none⟩ := cell_block h.1
theorem Keep2.cell2 {p q : Nat} {A B : World} (h : Keep2 p q A B) (o : Nat) : B.cell? ⟨q, o, none⟩ = A.cell? ⟨q, o, none⟩ := cell_block h.2
theorem Keep2.put {p q : Nat} {W : World} (l : Nat) (o' : Obj) (hp : p < l) (hq : q < l) : Keep2 p q W (W.putObj l o') := ⟨World.putObj_heap_other (by omega), World.putObj_heap_other (by omega)⟩

set_option maxRecDepth 100000 in
set_option maxHeartbeats 4000000 in
theorem back1_in (F : Fence) (n : Nat) (h7 : F.fn 38) (hro : F.round = none) (hn : 1 ≤ n) (l Bs b off cap : Nat) {M : Nat} (zs : List (List UInt8)) (hM : ∀ k : Nat, (zs[k]?.getD []).length ≤ M) (hreach : zs.length ≤ 1000000000) (J Jx : List (Bp M) → World → Prop)
    (hY : ∀ pre x W, J pre W → pre.length < zs.length → YieldAt F (n - 1) Tryd.prog l #[.int .i64 (x.1.1 : Int), .string (bs x.1.2)] W fun e W' =>
      (e = .returned (.bool true) ∧ J (pre ++ [x]) W' ∧ Keep2 Bs b W W') ∨ (e = .returned (.bool false) ∧ Jx (pre ++ [x]) W'))
    (W : World) (hBs : W.cell? ⟨Bs, 0, none⟩ = some (.slice (some ⟨b, off, none⟩) zs.length cap)) (hc : ∀ j, j < zs.length → W.cell? ⟨b, off + j, none⟩ = some (.string (bs (zs[j]?.getD [])))) (h0 : J [] W) :
    CallsIn F n Tryd.prog 38 #[.func (.yield l) #[] #[], .pointer (some ⟨Bs, 0, none⟩)] W fun e W' => (∃ v, e = .returned v) ∧
      ((∃ ys, ys = bk zs hM zs.length ∧ J ys W') ∨ (∃ pre, (∃ k, k ≤ zs.length ∧ pre = bk zs hM k) ∧ Jx pre W')) := by
  refine callsIn_of_wp Tryd.func38 rfl h7 ?_ hro
  simp only [Tryd.ntmps38, List.size_toArray, List.length_cons, List.length_nil, Nat.reduceAdd, Nat.reduceSub, Array.replicate_succ, Array.replicate_zero, List.push_toArray, List.append_toArray, List.nil_append, List.cons_append]
  gi_wp2
  gi_loopw [3] (fun i wr => ∃ k : Nat, k ≤ zs.length ∧ i = .int .i64 ((zs.length : Int) - 1 - k) ∧ J (bk zs hM k) wr ∧ Keep2 Bs b W wr)
    (fun i _ => (intOf i + 1).toNat)
  case atStart => exact ⟨0, Nat.zero_le _, by simp, h0, Keep2.refl _ _ _⟩
  case round =>
    obtain ⟨k, hk, rfl, hJs, hnx⟩ := hrel
    have hBx : wr.cell? ⟨Bs, 0, none⟩ = some (.slice (some ⟨b, off, none⟩) zs.length cap) := (hnx.cell1 0).trans hBs
    by_cases hlt : k < zs.length
    · obtain ⟨q, hq⟩ : ∃ q : Nat, zs.length - 1 - k = q := ⟨_, rfl⟩
      have hqz : (zs.length : Int) - 1 - k = (q : Int) := by omega
      have hql : q < zs.length := by omega
      have hcx : wr.cell? ⟨b, off + q, none⟩ = some (.string (bs (zs[q]?.getD []))) := (hnx.cell2 (off + q)).trans (hc q hql)
      obtain ⟨sq, hsq⟩ : ∃ s, zs[q]?.getD [] = s := ⟨_, rfl⟩
      rw [hsq] at hcx
      have hsM : sq.length ≤ M := by rw [← hsq]; exact hM q
      have hnew : bk zs hM (k + 1) = bk zs hM k ++ [⟨(q, sq), hsM⟩] := by rw [bk_succ]; simp only [hq, hsq]
      obtain ⟨fn, tmps, assign, body, hy, hR⟩ := hY _ ⟨(q, sq), hsM⟩ wr hJs (by rw [bk_length]; exact hlt)
      dsimp only at hy
      rw [hqz]
      gi_wp2
      refine hR.mono ?_
      rintro e W3 (⟨rfl, hJ3, hk3⟩ | ⟨rfl, hJx3⟩)
      · gi_wp2
        go_roundw
        case rel => exact ⟨k + 1, by omega, by simp <;> omega, by rw [hnew]; exact hJ3, hnx.trans hk3⟩
        case measure => simp [intOf] <;> omega
      · gi_wp2
        refine bodyPost_ret (results_none rfl _ _ _) rfl ?_
        exact ⟨⟨_, rfl⟩, .inr ⟨_, ⟨k + 1, by omega, hnew.symm⟩, hJx3⟩⟩
    · obtain rfl : k = zs.length := by omega
      gi_wp2
      go_end0
      exact ⟨⟨_, rfl⟩, .inl ⟨_, rfl, hJs⟩⟩

/-- slices.Backward: the slice lies in a box, which the function value has captured. -/
theorem slices_Backward_w {u : World} {m0 : Mem} {S : Segs} {w : World} {ad : Option Addr} {len cap : Nat} (ok : Ok u m0 S w) :
    Calls Tryd.prog 27 [.slice ad len cap].toArray w fun e w' => ∃ Bs, e = .returned (.func (.func 38) #[] #[.pointer (some ⟨Bs, 0, none⟩)]) ∧ Ok u m0 ([(Bs, Obj.cells [.slice ad len cap].toArray 24 (0, 0))] :: S) w' := by
  refine enter Tryd.func27 rfl rfl rfl fun a E => ?_
  refine wp_seq ?_
  refine c_region ?_
  refine l_box E ok rfl rfl rfl fun Bs a w E ok => ?_
  refine l_val E ok (y_assign rfl) rfl rfl fun a E => ?_
  refine wpList_nil ?_
  refine t_norm ?_
  refine wp_seq ?_
  refine c_region ?_
  refine l_val (v := .func (.func 38) #[] #[.pointer (some ⟨Bs, 0, none⟩)]) E ok (fun ρ w dst pos after g Eρ _ => by
    have h1 : ρ (.tmp 1) = .pointer (some ⟨Bs, 0, none⟩) := Eρ rfl
    simp only [execOp, Instr.makeFunc]
    simp [h1, go_sem]) rfl rfl fun a E => ?_
  refine l_val E ok (y_assign rfl) rfl rfl fun a E => ?_
  refine wpList_nil ?_
  refine t_norm ?_
  refine wp_ret ?_
  exact c_ret2 [.t 2 (.func (.func 38) #[] #[.pointer (some ⟨Bs, 0, none⟩)])] E.d rfl ⟨rv_t E rfl, trivial⟩ ⟨Bs, rfl, ok⟩

theorem back_stops (F : Fence) (n : Nat) (h7 : F.fn 38) (hro : F.round = none) (hn : 1 ≤ n) (Bs b off cap : Nat) {M : Nat} (zs : List (List UInt8)) (hM : ∀ k : Nat, (zs[k]?.getD []).length ≤ M) (hreach : zs.length ≤ 1000000000) (w : World) (hBs : Bs < w.heap.size) (hb : b < w.heap.size)
    (hc0 : w.cell? ⟨Bs, 0, none⟩ = some (.slice (some ⟨b, off, none⟩) zs.length cap)) (hc : ∀ j, j < zs.length → w.cell? ⟨b, off + j, none⟩ = some (.string (bs (zs[j]?.getD [])))) :
    SeqStopsK F n Tryd.prog 38 #[.pointer (some ⟨Bs, 0, none⟩)] (fun x : Bp M => #[Value.int .i64 (x.1.1 : Int), Value.string (bs x.1.2)]) (Keep2 Bs b) (fun ys => ys = bk zs hM zs.length) (fun pre => ∃ k, k ≤ zs.length ∧ pre = bk zs hM k) zs.length w :=
  fun l J Jx W hW _ _ hY h0 => back1_in F n h7 hro hn l Bs b off cap zs hM hreach J Jx hY W ((hW.cell (p := ⟨Bs, 0, none⟩) hBs).trans hc0) (fun j hj => (hW.cell (p := ⟨b, off + j, none⟩) hb).trans (hc j hj)) h0
end Go.Proofs.YtnmiodonophfbaaDoor
