/- lineup.complete. -/
import Derived.Test.YtmagppkclnebjaaGreatDoorQa
import Derived.Test.YtmagppkclnebjaaGreatDoorShS
import Derived.Sort.OwnSortedInts
set_option linter.unusedVariables false
set_option linter.unusedSimpArgs false
set_option linter.unusedSimpArgs false
namespace Go.Proofs.YtmagppkclnebjaaGreatDoor
open Go.RowKit
open Go.Sort
open L

/-- slices.Sort at a block of the call's own -/
theorem sort_blk (g : Nat) (c : Nat) (zs : List Int) (n : Nat) (hn : zs.length = n) (hn9 : n ≤ 9) (w : World) (hc : ∀ j, j < n → w.cell? ⟨g, 0 + j, none⟩ = some (.int .i64 (zs.getD j 0)) ∧ w.frozen? ⟨g, 0 + j, none⟩ = false) (hg : g < w.heap.size) :
 Calls Tryz.prog 142 #[.slice (some ⟨g, 0, none⟩) n c] w fun x w' => x = .returned (.tuple #[]) ∧ (∀ j, j < n → w'.cell? ⟨g, 0 + j, none⟩ = some (.int .i64 ((sortI zs).getD j 0))) ∧ w.grownBy w' (some g) := by
 have hH : Holds (Value.int .i64) w g 0 zs.toArray := fun j hj => by
  have hj' : j < zs.length := by simpa using hj
  obtain ⟨h1, h2⟩ := hc j (by omega)
  refine ⟨?_, h2⟩
  rw [h1]
  simp [List.getD, List.getElem?_eq_getElem hj', hj']
 subst hn
 refine (Tryz.slices_Sort_int g 0 c zs w hH hg (by omega)).mono fun e w' ⟨he, k, os, hw⟩ => ?_
 refine ⟨he, fun j hj => ?_, by rw [hw]; exact grownBy_sortedI _⟩
 have hl : (sortI zs).length = zs.length := by unfold sortI; exact List.length_mergeSort _
 have hs := cell?_putRow (Value.int .i64) (Sort.ahead w k) g 0 zs.toArray (sortI zs).toArray hH (by simp [hl]) j (by simp [hl]; exact hj)
 rw [hw, cell?_grow _ _ _ (by simpa using hg)]
 unfold sortI at hs ⊢
 rw [hs]
 simp [List.getD, List.getElem?_eq_getElem (show j < (zs.mergeSort fun x y => decide (x ≤ y)).length by rw [List.length_mergeSort]; exact hj), hj]

theorem list9 {α : Type} (xs : List α) (h : xs.length = 9) : ∃ a0 a1 a2 a3 a4 a5 a6 a7 a8, xs = [a0, a1, a2, a3, a4, a5, a6, a7, a8] := by
 match xs, h with
 | [a0, a1, a2, a3, a4, a5, a6, a7, a8], _ => exact ⟨a0, a1, a2, a3, a4, a5, a6, a7, a8, rfl⟩

set_option maxHeartbeats 1000000 in
set_option maxRecDepth 100000 in
theorem complete_any (l : LU) (hl : l.ok) (A : Array Value) (hA : A = l.cells.toArray) (w : World) :
 Calls Tryz.prog 120 #[.agg A] w fun x w' => x = .returned (.bool (complete l.p)) ∧ Below w.heap.size w w' := by
 have hbk := Bk.new w 33 A
 obtain ⟨p0, p1, p2, p3, p4, p5, p6, p7, p8, hp⟩ := list9 l.p hl.2
 have hc : ∀ j, j < 9 → (w.alloc (.cells A 33)).cell? ⟨w.heap.size, 9 + j, none⟩ = some (.int .i64 (l.p.getD j 0)) := fun j hj => by
  rw [hbk.cell, hA, List.getElem?_toArray]
  simp only [LU.cells]
  rw [List.getElem?_append_right (by simp [hl.1]), getD_map_int _ _ (by rw [hl.2]; exact hj)]
  simp [hl.1]
 rw [hp] at hc ⊢
 have c0 := hc 0 (by omega)
 have c1 := hc 1 (by omega)
 have c2 := hc 2 (by omega)
 have c3 := hc 3 (by omega)
 have c4 := hc 4 (by omega)
 have c5 := hc 5 (by omega)
 have c6 := hc 6 (by omega)
 have c7 := hc 7 (by omega)
 have c8 := hc 8 (by omega)
 simp only [List.getD_cons_zero, List.getD_cons_succ, Nat.reduceAdd] at c0 c1 c2 c3 c4 c5 c6 c7 c8
 obtain ⟨q0, q1, q2, q3, q4, q5, q6, q7, q8, hq⟩ := list9 (sortI [p0, p1, p2, p3, p4, p5, p6, p7, p8]) (by unfold sortI; rw [List.length_mergeSort]; rfl)
 have hcm : complete [p0, p1, p2, p3, p4, p5, p6, p7, p8] = decide ([q0, q1, q2, q3, q4, q5, q6, q7, q8] = [1, 2, 3, 4, 5, 6, 7, 8, 9]) := by unfold complete; rw [hq]
 rw [hcm]
 have hsort := fun (W : World) (hW : ∀ j, j < 9 → W.cell? ⟨w.heap.size + 1, 0 + j, none⟩ = some (.int .i64 ([p0, p1, p2, p3, p4, p5, p6, p7, p8].getD j 0)) ∧ W.frozen? ⟨w.heap.size + 1, 0 + j, none⟩ = false) (hg : w.heap.size + 1 < W.heap.size) => sort_blk (w.heap.size + 1) 9 [p0, p1, p2, p3, p4, p5, p6, p7, p8] 9 rfl (by omega) W hW hg
 rw [hq] at hsort
 have Hsort := Lib.hid hsort
 have hEq : ∀ W, (binOp .eql 23 (.agg #[.int .i64 q0, .int .i64 q1, .int .i64 q2, .int .i64 q3, .int .i64 q4, .int .i64 q5, .int .i64 q6, .int .i64 q7, .int .i64 q8]) (.agg #[.int .i64 1, .int .i64 2, .int .i64 3, .int .i64 4, .int .i64 5, .int .i64 6, .int .i64 7, .int .i64 8, .int .i64 9])).run Tryz.prog W = .ok (.bool (decide ([q0, q1, q2, q3, q4, q5, q6, q7, q8] = [1, 2, 3, 4, 5, 6, 7, 8, 9]))) W := fun W => op_eql23 W [q0, q1, q2, q3, q4, q5, q6, q7, q8] [1, 2, 3, 4, 5, 6, 7, 8, 9] rfl rfl
 generalize decide ([q0, q1, q2, q3, q4, q5, q6, q7, q8] = [1, 2, 3, 4, 5, 6, 7, 8, 9]) = r at hEq ⊢
 have HB := Lib.hid (bt_alloc (bt_new w (.cells A 33)) (.cells #[.int .i64 p0, .int .i64 p1, .int .i64 p2, .int .i64 p3, .int .i64 p4, .int .i64 p5, .int .i64 p6, .int .i64 p7, .int .i64 p8] 23))
 have hnew := Bk.new (w.alloc (.cells A 33)) 23 #[.int .i64 p0, .int .i64 p1, .int .i64 p2, .int .i64 p3, .int .i64 p4, .int .i64 p5, .int .i64 p6, .int .i64 p7, .int .i64 p8]
 rw [World.size_alloc] at hnew
 have Hnew := Lib.hid hnew
 have hsl : ∀ W, (Instr.sliceAt 23 (.pointer (some ⟨w.heap.size + 1, 0, none⟩)) none none none).run Tryz.prog W = .ok (.slice (some ⟨w.heap.size + 1, 0, none⟩) 9 9) W := fun W =>
  run_slice_arr_all W 23 3 9 _ Tryz.underlying23 size3
 clear hbk hp hc hA hl hcm hsort hnew hq
 go_enter Tryz.func120, Tryz.ntmps120
 go_wp2_with (go_at_call 142; refine (Hsort.out _ ?_ ?_).mono ?_)
 ·
  intro j hj
  refine ⟨?_, Hnew.out.frozen _⟩
  rw [Hnew.out.cell, Nat.zero_add]
  have hj' : j = 0 ∨ j = 1 ∨ j = 2 ∨ j = 3 ∨ j = 4 ∨ j = 5 ∨ j = 6 ∨ j = 7 ∨ j = 8 := by omega
  rcases hj' with rfl | rfl | rfl | rfl | rfl | rfl | rfl | rfl | rfl <;> rfl
 ·
  simp
 ·
  rintro e w1 ⟨rfl, hc, hg⟩
  have d0 := hc 0 (by omega)
  have d1 := hc 1 (by omega)
  have d2 := hc 2 (by omega)
  have d3 := hc 3 (by omega)
  have d4 := hc 4 (by omega)
  have d5 := hc 5 (by omega)
  have d6 := hc 6 (by omega)
  have d7 := hc 7 (by omega)
  have d8 := hc 8 (by omega)
  simp only [List.getD_cons_zero, List.getD_cons_succ, Nat.zero_add] at d0 d1 d2 d3 d4 d5 d6 d7 d8
  have HG := Lib.hid hg
  clear hc hg hsl
  go_wp2
  go_ret
  refine ⟨rfl, HB.out.grown HG.out HB.out.size (fun k hk => ?_)⟩
  cases hk
  omega
end Go.Proofs.YtmagppkclnebjaaGreatDoor
