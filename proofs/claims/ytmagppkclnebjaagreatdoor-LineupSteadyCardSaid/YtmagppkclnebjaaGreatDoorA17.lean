/- slices.SortFunc at the stints, with the closure of Pitchers, at twelve stints or fewer. -/
import Derived.Test.YtmagppkclnebjaaGreatDoorQr
import Derived.Test.YtmagppkclnebjaaGreatDoorQs
set_option linter.unusedVariables false
set_option linter.unusedSimpArgs false
set_option linter.unusedSimpArgs false
namespace Go.Proofs.YtmagppkclnebjaaGreatDoor
open Go.RowKit Go.Sort
open L

instance : Inhabited Sti := ⟨noSti⟩
def encSti (s : Sti) : List Value := [.int .i64 s.side, .int .i64 s.slot, .int .i64 s.pos, .string s.name, .int .i64 s.fr, .int .i64 s.to]
def cmpSti (x y : Sti) : Int := cmpI x.fr y.fr
theorem closure102 (x y : Sti) (W : World) : Calls Tryz.prog 102 #[.agg #[.int .i64 x.side, .int .i64 x.slot, .int .i64 x.pos, .string x.name, .int .i64 x.fr, .int .i64 x.to], .agg #[.int .i64 y.side, .int .i64 y.slot, .int .i64 y.pos, .string y.name, .int .i64 y.fr, .int .i64 y.to]] W
 fun e w' => e = .returned (.int .i64 (cmpSti x y)) ∧ ∃ q os', w' = grow (W.drewN q) os' := by
 unfold cmpSti
 go_enter Tryz.func102, Tryz.ntmps102
 go_wp2_with (go_at_call 103; refine (compare_any _ _ _).mono ?_; rintro e w' ⟨rfl, rfl⟩)
 go_ret
 exact ⟨rfl, 0, _, by rw [alloc_eq_grow, alloc_eq_grow, grow_grow]; rfl⟩
theorem cmpLays102 (blk off size : Nat) (w : World) : CmpLays Tryz.prog 102 #[] encSti 6 cmpSti blk off size w := fun _ _ _ _ x y => closure102 x y _
theorem hlen12 (n : Nat) (W : World) (h : n ≤ 12) : Calls Tryz.prog 135 #[.int .u64 n] W fun e w' => (∃ l : Int, e = .returned (.int .i64 l)) ∧ w' = W :=
 (Tryz.bits_Len n W (by omega) (by omega)).mono fun _ _ ⟨he, hw⟩ => ⟨⟨_, he⟩, hw⟩
theorem ltOf_cmp (x y : Sti) : ltOf cmpSti x y = decide (x.fr < y.fr) := by
 unfold ltOf cmpSti cmpI
 by_cases h : x.fr < y.fr
 ·
  simp [h]
 ·
  by_cases h2 : x.fr > y.fr
  ·
   simp [h, h2]
  ·
   simp [h, h2]
theorem swoSti : SWO (ltOf cmpSti) := by
 refine ⟨fun x => ?_, fun x y z h1 h2 => ?_, fun x y z h1 h2 => ?_⟩
 ·
  rw [ltOf_cmp]; simp
 ·
  rw [ltOf_cmp] at *; simp at *; omega
 ·
  rw [ltOf_cmp] at *; simp at *; omega
theorem holdsSti {w : World} {base g n c : Nat} {S : List Sti} (hn : S.length = n) (h : w.ownsRow base 107 6 (.slice (some ⟨g, 0, none⟩) n c) n (flatS S)) : HoldsK encSti 6 w g 0 S.toArray := by
 intro j hj
 rw [size_flatK] at hj
 have hj' : j < n * 6 := by simpa [hn] using hj
 refine ⟨?_, h.frozenAt _⟩
 rw [Nat.zero_add, h.cellAt _ hj', get_flatK _ _ _ _ hj]
 have h1 := flatS_at S (j / 6) (j % 6) (by omega) (by omega)
 rw [show j / 6 * 6 + j % 6 = j by omega] at h1
 rw [h1]
 have h2 : S.toArray[j / 6]! = S.getD (j / 6) noSti := by
  have : j / 6 < S.length := by omega
  simp [List.getD, List.getElem?_eq_getElem this, this]
 rw [h2]
 have h6 : j % 6 = 0 ∨ j % 6 = 1 ∨ j % 6 = 2 ∨ j % 6 = 3 ∨ j % 6 = 4 ∨ j % 6 = 5 := by omega
 rcases h6 with e | e | e | e | e | e <;> rw [e] <;> rfl

set_option maxHeartbeats 2000000 in
theorem sortFunc_any (base g c n : Nat) (S : List Sti) (w : World) (hn : S.length = n) (h12 : n ≤ 12) (how : w.ownsRow base 107 6 (.slice (some ⟨g, 0, none⟩) n c) n (flatS S)) :
 Calls Tryz.prog 101 #[.slice (some ⟨g, 0, none⟩) n c, .func (.func 102) #[] #[]] w fun x w' =>
  x = .returned (.tuple #[]) ∧ w.grownBy w' (some g) ∧ ∃ S' : List Sti, S'.Perm S ∧ S'.Pairwise (fun a b => a.fr ≤ b.fr) ∧ RdS w' (some ⟨g, 0, none⟩) S' := by
 have hH := holdsSti hn how
 have hsz : S.toArray.size = n := by simp [hn]
 have hlt := (how.lt g rfl).2
 have hcon := AnyQ.slices_SortFunc_small_sorted Tryz.sortSti 6 Tryz.isAgg107 Tryz.sizeOf107 encSti (fun _ => rfl) (fun x v hv => by simp [encSti] at hv; rcases hv with rfl | rfl | rfl | rfl | rfl | rfl <;> rfl) cmpSti 102 #[] swoSti g 0 c S.toArray w
  (enters_of Tryz.func102 (by kernel_rfl) rfl) (cmpLays102 g 0 S.toArray.size w) hH hlt (by omega) (fun n W h => hlen12 n W h)
 rw [hsz] at hcon
 refine Calls.mono hcon ?_
 rintro x w' ⟨rfl, d', m, os, ⟨hs, _, hp⟩, hso, rfl⟩
 have hs' : d'.size = n := by rw [hs, hsz]
 have hH2 : HoldsK encSti 6 (sortWorldK encSti 6 w g 0 m d' os) g 0 d' := by
  unfold sortWorldK
  refine holdsK_grow _ _ _ _ _ _ _ (by simpa [putRowK, putRow, mapBlock, ahead] using hlt) (holdsK_putRowK _ _ _ _ _ S.toArray d' (holdsK_ahead _ _ _ _ _ _ _ hH) hs)
 refine ⟨rfl, ?_, d'.toList, ?_, ?_, ?_⟩
 ·
  unfold sortWorldK
  refine ⟨rfl, rfl, rfl, by simp [grow, putRowK, putRow, mapBlock, ahead], fun i hi hne => ?_⟩
  have hig : i ≠ g := fun e => hne (by rw [e])
  show (w.heap.modify g _ ++ os)[i]? = w.heap[i]?
  rw [Array.getElem?_append_left (by rw [Array.size_modify]; exact hi), Array.getElem?_modify, if_neg (Ne.symm hig)]
 ·
  have e1 : d'.extract 0 n = d' := by rw [← hs']; exact Array.extract_size
  have e2 : S.toArray.extract 0 n = S.toArray := by rw [← hsz]; exact Array.extract_size
  rw [e1, e2] at hp
  simpa using hp
 ·
  rw [List.pairwise_iff_getElem]
  intro i j hi hj hij
  have h1 := hso i j (by omega) hij (by simpa [hs'] using hj)
  rw [ltOf_cmp] at h1
  have hi' : i < d'.size := by simpa using hi
  have hj' : j < d'.size := by simpa using hj
  rw [getElem!_pos d' j hj', getElem!_pos d' i hi'] at h1
  simp at h1
  simpa using h1
 ·
  intro k hk
  refine ⟨g, 0, rfl, fun j hj => ?_⟩
  have hk' : k < d'.size := by simpa using hk
  rw [(hH2.cell hk' hj).1]
  have : d'.toList.getD k noSti = d'[k]! := by
   rw [getElem!_pos d' k hk']
   simp [List.getD, hk']
  rw [this]
  have h6 : j = 0 ∨ j = 1 ∨ j = 2 ∨ j = 3 ∨ j = 4 ∨ j = 5 := by omega
  rcases h6 with rfl | rfl | rfl | rfl | rfl | rfl <;> rfl
end Go.Proofs.YtmagppkclnebjaaGreatDoor
