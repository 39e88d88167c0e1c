/- The reference's comparisons of lists of numbers and of words. -/
import Derived.Test.YtmagppkclnebjaaGreatDoorQa
set_option linter.unusedVariables false
set_option linter.unusedSimpArgs false
set_option linter.unusedSimpArgs false
namespace Go.Proofs.YtmagppkclnebjaaGreatDoor
open Go.RowKit
open L

set_option maxHeartbeats 1000000 in
theorem sameInts_any (xs ys : List Int) (A B : Option Addr) (n m c d : Nat) (w : World) (hx : xs.length = n) (hy : ys.length = m) (hle : n ≤ 4611686018427387904) (h1 : Rd w A (xs.map (Value.int .i64))) (h2 : Rd w B (ys.map (Value.int .i64))) :
 Calls Tryz.prog 19 #[.slice A n c, .slice B m d] w fun x w' => x = .returned (.bool (decide (xs = ys))) ∧ ∃ q, w' = w.drewN q := by
 have Hx := Lib.hid hx; have Hy := Lib.hid hy; have H1 := Lib.hid h1; have H2 := Lib.hid h2
 clear hx hy h1 h2
 by_cases hnm : n = m
 ·
  subst hnm
  go_enter Tryz.func19, Tryz.ntmps19
  go_wp2
  go_loopw [5] (fun i wr => ∃ k : Nat, k ≤ n ∧ i = .int .i64 k ∧ (∃ q, wr = w.drewN q) ∧ ∀ j, j < k → xs.getD j 0 = ys.getD j 0) (fun i _ => n - (intOf i).toNat)
  case atStart => exact ⟨0, Nat.zero_le _, rfl, ⟨0, rfl⟩, by intro j hj; omega⟩
  case round =>
   obtain ⟨k, hk, rfl, ⟨q, rfl⟩, hj⟩ := hrel
   have Hj := Lib.hid hj; clear hj
   by_cases hlt : k < n
   ·
    obtain ⟨b, off, rfl, hc1⟩ := H1.out.int (k := k) (by rw [Hx.out]; exact hlt)
    obtain ⟨b2, off2, rfl, hc2⟩ := H2.out.int (k := k) (by rw [Hy.out]; exact hlt)
    generalize he : xs.getD k 0 = e at hc1
    generalize hf : ys.getD k 0 = f at hc2
    have He := Lib.hid he; have Hf := Lib.hid hf; clear he hf
    have d1 : (w.drewN q).cell? ⟨b, off + k, none⟩ = some ((Value.int .i64) e) := hc1
    have d2 : (w.drewN q).cell? ⟨b2, off2 + k, none⟩ = some ((Value.int .i64) f) := hc2
    have q0 : (0 : Int) ≤ (k : Int) := by omega
    have q1 : (k : Int) < (n : Int) := by omega
    by_cases hq : e = f
    ·
     have ht : (e != f) = false := by simpa using hq
     have Hq := Lib.hid hq; clear hq
     go_upto_region 6 with fail
     go_quiet (fail)
     go_wp2
     go_roundw
     case rel =>
      refine ⟨k + 1, by omega, by go_num, ⟨_, rfl⟩, fun j hj => ?_⟩
      rcases Nat.lt_succ_iff_lt_or_eq.1 hj with h1 | rfl
      ·
       exact Hj.out j h1
      ·
       rw [He.out, Hf.out, Hq.out]
     case measure => simp [intOf]; omega
    ·
     have ht : (e != f) = true := by simpa using hq
     have Hq := Lib.hid hq; clear hq
     go_upto_region 6 with fail
     go_quiet (fail)
     go_wp2
     go_ret
     refine ⟨ret_bool ?_, ⟨_, World.drewN_drewN _ _ _⟩⟩
     symm
     rw [decide_eq_false_iff_not]
     rintro rfl
     exact Hq.out (He.out.symm.trans Hf.out)
   ·
    obtain rfl : k = n := by omega
    go_wp2
    go_ret
    refine ⟨ret_bool ?_, ⟨_, rfl⟩⟩
    symm
    rw [decide_eq_true_eq]
    apply List.ext_getElem (by rw [Hx.out, Hy.out])
    intro j h1 h2
    have := Hj.out j (by rw [Hx.out] at h1; exact h1)
    simpa [List.getD, List.getElem?_eq_getElem h1, List.getElem?_eq_getElem h2] using this
 ·
  have q1 : ((n : Int) != (m : Int)) = true := by simp; omega
  go_enter Tryz.func19, Tryz.ntmps19
  go_wp2
  go_ret
  refine ⟨ret_bool ?_, ⟨0, rfl⟩⟩
  symm
  rw [decide_eq_false_iff_not]
  rintro rfl
  exact hnm (Hx.out.symm.trans Hy.out)

set_option maxHeartbeats 1000000 in
theorem sameWords_any (xs ys : List Str) (A B : Option Addr) (n m c d : Nat) (w : World) (hx : xs.length = n) (hy : ys.length = m) (hle : n ≤ 4611686018427387904) (h1 : Rd w A (xs.map Value.string)) (h2 : Rd w B (ys.map Value.string)) :
 Calls Tryz.prog 32 #[.slice A n c, .slice B m d] w fun x w' => x = .returned (.bool (decide (xs = ys))) ∧ ∃ q, w' = w.drewN q := by
 have Hx := Lib.hid hx; have Hy := Lib.hid hy; have H1 := Lib.hid h1; have H2 := Lib.hid h2
 clear hx hy h1 h2
 by_cases hnm : n = m
 ·
  subst hnm
  go_enter Tryz.func32, Tryz.ntmps32
  go_wp2
  go_loopw [5] (fun i wr => ∃ k : Nat, k ≤ n ∧ i = .int .i64 k ∧ (∃ q, wr = w.drewN q) ∧ ∀ j, j < k → xs.getD j .empty = ys.getD j .empty) (fun i _ => n - (intOf i).toNat)
  case atStart => exact ⟨0, Nat.zero_le _, rfl, ⟨0, rfl⟩, by intro j hj; omega⟩
  case round =>
   obtain ⟨k, hk, rfl, ⟨q, rfl⟩, hj⟩ := hrel
   have Hj := Lib.hid hj; clear hj
   by_cases hlt : k < n
   ·
    obtain ⟨b, off, rfl, hc1⟩ := H1.out.str (k := k) (by rw [Hx.out]; exact hlt)
    obtain ⟨b2, off2, rfl, hc2⟩ := H2.out.str (k := k) (by rw [Hy.out]; exact hlt)
    generalize he : xs.getD k .empty = e at hc1
    generalize hf : ys.getD k .empty = f at hc2
    have He := Lib.hid he; have Hf := Lib.hid hf; clear he hf
    have d1 : (w.drewN q).cell? ⟨b, off + k, none⟩ = some (Value.string e) := hc1
    have d2 : (w.drewN q).cell? ⟨b2, off2 + k, none⟩ = some (Value.string f) := hc2
    have q0 : (0 : Int) ≤ (k : Int) := by omega
    have q1 : (k : Int) < (n : Int) := by omega
    by_cases hq : e = f
    ·
     have ht := tl_eq hq
     have Hq := Lib.hid hq; clear hq
     go_upto_region 6 with fail
     go_quiet (fail)
     go_wp2
     go_roundw
     case rel =>
      refine ⟨k + 1, by omega, by go_num, ⟨_, rfl⟩, fun j hj => ?_⟩
      rcases Nat.lt_succ_iff_lt_or_eq.1 hj with h1 | rfl
      ·
       exact Hj.out j h1
      ·
       rw [He.out, Hf.out, Hq.out]
     case measure => simp [intOf]; omega
    ·
     have ht := tl_ne hq
     have Hq := Lib.hid hq; clear hq
     go_upto_region 6 with fail
     go_quiet (fail)
     go_wp2
     go_ret
     refine ⟨ret_bool ?_, ⟨_, World.drewN_drewN _ _ _⟩⟩
     symm
     rw [decide_eq_false_iff_not]
     rintro rfl
     exact Hq.out (He.out.symm.trans Hf.out)
   ·
    obtain rfl : k = n := by omega
    go_wp2
    go_ret
    refine ⟨ret_bool ?_, ⟨_, rfl⟩⟩
    symm
    rw [decide_eq_true_eq]
    apply List.ext_getElem (by rw [Hx.out, Hy.out])
    intro j h1 h2
    have := Hj.out j (by rw [Hx.out] at h1; exact h1)
    simpa [List.getD, List.getElem?_eq_getElem h1, List.getElem?_eq_getElem h2] using this
 ·
  have q1 : ((n : Int) != (m : Int)) = true := by simp; omega
  go_enter Tryz.func32, Tryz.ntmps32
  go_wp2
  go_ret
  refine ⟨ret_bool ?_, ⟨0, rfl⟩⟩
  symm
  rw [decide_eq_false_iff_not]
  rintro rfl
  exact hnm (Hx.out.symm.trans Hy.out)
end Go.Proofs.YtmagppkclnebjaaGreatDoor
