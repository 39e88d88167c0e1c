/- The reference: CheckRange, IsName, SlotOf, CheckLineup. -/
import Derived.Test.YtmagppkclnebjaaGreatDoorQa
import Derived.Test.YtmagppkclnebjaaGreatDoorQg
import Derived.WalkMore
set_option linter.unusedVariables false
set_option linter.unusedSimpArgs false
set_option linter.unusedSimpArgs false
namespace Go.Proofs.YtmagppkclnebjaaGreatDoor
open Go.RowKit
open L

theorem refRange_any (n lo hi : Int) (w : World) : Calls Tryz.prog 39 #[.int .i64 n, .int .i64 lo, .int .i64 hi] w fun x w' => x = .returned (.int .i64 (withinE n lo hi)) ∧ w = w' := by
 by_cases h1 : n < lo
 ·
  have e : withinE n lo hi = 3 := by unfold withinE whenE; simp [h1]
  rw [e]; clear e
  go_enter Tryz.func39, Tryz.ntmps39
  go_wp2
  go_ret
  exact ⟨rfl, rfl⟩
 ·
  by_cases h2 : hi < n
  ·
   have e : withinE n lo hi = 3 := by unfold withinE whenE; simp [h2]
   rw [e]; clear e
   go_enter Tryz.func39, Tryz.ntmps39
   go_wp2
   go_ret
   exact ⟨rfl, rfl⟩
  ·
   have e : withinE n lo hi = 0 := by unfold withinE whenE; simp; omega
   rw [e]; clear e
   go_enter Tryz.func39, Tryz.ntmps39
   go_wp2
   go_ret
   exact ⟨rfl, rfl⟩
def letrI (n : Int) : Bool := decide (65 ≤ n ∧ n ≤ 90 ∨ 97 ≤ n ∧ n ≤ 122)
def digI (n : Int) : Bool := decide (48 ≤ n ∧ n ≤ 57)
theorem letrI_eq (c : UInt8) : letrI c.toNat = letter c := by
 unfold letrI letter
 rw [Bool.eq_iff_iff]
 simp only [Bool.or_eq_true, Bool.and_eq_true, decide_eq_true_eq, UInt8.le_iff_toNat_le, UInt8.reduceToNat]
 omega
theorem nameChar_eq (c : UInt8) : nameChar c = (letrI c.toNat || digI c.toNat || decide ((c.toNat : Int) = 95)) := by
 unfold nameChar
 rw [letrI_eq]
 congr 1
 ·
  congr 1
  unfold digI
  rw [Bool.eq_iff_iff]
  simp only [Bool.and_eq_true, decide_eq_true_eq, UInt8.le_iff_toNat_le, UInt8.reduceToNat]
  omega
 ·
  rw [Bool.eq_iff_iff]
  simp only [decide_eq_true_eq, ← UInt8.toNat_inj, UInt8.reduceToNat]
  omega
theorem refLetter_any (n : Int) (h0 : 0 ≤ n) (h1 : n ≤ 255) (w : World) : Calls Tryz.prog 107 #[.int .u8 n] w fun x w' => x = .returned (.bool (letrI n)) ∧ w = w' := by
 have hc : n < 65 ∨ (65 ≤ n ∧ n ≤ 90) ∨ (90 < n ∧ n < 97) ∨ (97 ≤ n ∧ n ≤ 122) ∨ 122 < n := by omega
 rcases hc with h | ⟨h, h'⟩ | ⟨h, h'⟩ | ⟨h, h'⟩ | h
 all_goals
  have e : Hid (letrI n = letrI n) := rfl
  go_enter Tryz.func107, Tryz.ntmps107
  go_wp2
  go_ret
  refine ⟨ret_bool ?_, rfl⟩
  unfold letrI
  rw [Bool.eq_iff_iff]
  simp only [Bool.or_eq_true, Bool.false_eq_true, decide_eq_true_eq, true_iff, false_iff, false_or, true_or]
  omega
theorem refDigit_any (n : Int) (h0 : 0 ≤ n) (h1 : n ≤ 255) (w : World) : Calls Tryz.prog 108 #[.int .u8 n] w fun x w' => x = .returned (.bool (digI n)) ∧ w = w' := by
 have hc : n < 48 ∨ (48 ≤ n ∧ n ≤ 57) ∨ 57 < n := by omega
 rcases hc with h | ⟨h, h'⟩ | h
 all_goals
  go_enter Tryz.func108, Tryz.ntmps108
  go_wp2
  go_ret
  refine ⟨ret_bool ?_, rfl⟩
  unfold digI
  rw [Bool.eq_iff_iff]
  simp only [Bool.or_eq_true, Bool.false_eq_true, decide_eq_true_eq, true_iff, false_iff, false_or, true_or]
  omega
theorem all_take_succ (l : List UInt8) (p : UInt8 → Bool) (k : Nat) (hk : k < l.length) : (l.take (k + 1)).all p = ((l.take k).all p && p l[k]) := by
 rw [List.take_succ_eq_append_getElem hk, List.all_append]; simp
theorem all_false_of (l : List UInt8) (p : UInt8 → Bool) (k : Nat) (hk : k < l.length) (h : p l[k] = false) : l.all p = false := by
 rw [Bool.eq_false_iff]; intro hh
 rw [List.all_eq_true] at hh
 rw [hh _ (List.getElem_mem hk)] at h; cases h

set_option maxHeartbeats 1000000 in
theorem refName_any (s : Str) (hs : s.size ≤ 9223372036854775807) (w : World) : Calls Tryz.prog 52 #[.string s] w fun x w' => x = .returned (.bool (isName s)) ∧ w = w' := by
 have hlen : s.data.toList.length = s.size := by rw [← Lib.size_eq]
 by_cases h0 : s.size = 0
 ·
  have e : isName s = false := by unfold isName isNameL; simp [hlen, h0]
  have E := Lib.hid e; clear e
  have h1 : ((s.size : Int) == 0) = true := by simpa using h0
  clear h0 hlen
  go_enter Tryz.func52, Tryz.ntmps52
  go_wp2
  go_ret
  exact ⟨ret_bool E.out.symm, rfl⟩
 by_cases h24 : 24 < s.size
 ·
  have e : isName s = false := by unfold isName isNameL; simp [hlen, show ¬ s.size ≤ 24 by omega]
  have E := Lib.hid e; clear e
  have h1 : ((s.size : Int) == 0) = false := by simpa using h0
  clear h0 hlen
  go_enter Tryz.func52, Tryz.ntmps52
  go_wp2
  go_ret
  exact ⟨ret_bool E.out.symm, rfl⟩
 have h1 : ((s.size : Int) == 0) = false := by simpa using h0
 have hpos : 0 < s.size := by omega
 have hhd : s.data.toList.headD 0 = s[0] := by
  have : 0 < s.data.toList.length := by omega
  rw [List.headD_eq_head?_getD, List.head?_eq_getElem?, List.getElem?_eq_getElem this]; rfl
 have hN : isName s = (letrI (s[0].toNat : Int) && s.data.toList.all nameChar) := by
  unfold isName isNameL
  rw [hlen, hhd, ← letrI_eq]; simp [hpos, show s.size ≤ 24 by omega]
 have HN := Lib.hid hN; clear hN hhd
 have hb0 : (0 : Int) ≤ (s[0].toNat : Int) ∧ (s[0].toNat : Int) ≤ 255 := by have := s[0].toNat_lt; omega
 have Hb0 := Lib.hid hb0; clear hb0
 cases hL : letrI (s[0].toNat : Int)
 ·
  have HL := Lib.hid hL; clear hL
  have hc := refLetter_any (s[0].toNat : Int) Hb0.out.1 Hb0.out.2 w
  rw [HL.out] at hc
  have Hc := Lib.hid hc; clear hc
  go_enter Tryz.func52, Tryz.ntmps52
  go_wp2_with (go_at_call 107; refine Hc.out.mono ?_; rintro e w' ⟨rfl, rfl⟩)
  go_ret
  exact ⟨ret_bool (by rw [HN.out, HL.out]; rfl), rfl⟩
 ·
  have HL := Lib.hid hL; clear hL
  have hc := refLetter_any (s[0].toNat : Int) Hb0.out.1 Hb0.out.2 w
  rw [HL.out] at hc
  have Hc := Lib.hid hc; clear hc
  have Hlen := Lib.hid hlen; clear hlen
  go_enter Tryz.func52, Tryz.ntmps52
  go_upto_region 3 with (go_at_call 107; refine Hc.out.mono ?_; rintro e w' ⟨rfl, rfl⟩)
  clear Hc
  go_upto_region 4 with fail
  go_loop [3] (fun i => ∃ k : Nat, k ≤ s.size ∧ i = .int .i64 k ∧ (s.data.toList.take k).all nameChar = true) (fun i => s.size - (intOf i).toNat)
  case atStart => exact ⟨0, Nat.zero_le _, rfl, rfl⟩
  case round =>
   obtain ⟨k, hk, rfl, hall⟩ := hrel
   have Hall := Lib.hid hall; clear hall
   by_cases hlt : k < s.size
   ·
    have hl : k < s.data.toList.length := by rw [Hlen.out]; exact hlt
    have hst := all_take_succ s.data.toList nameChar k hl
    have hfl := all_false_of s.data.toList nameChar k hl
    have hg : s.data.toList[k] = s[k] := rfl
    rw [hg] at hst hfl
    rw [nameChar_eq] at hst hfl
    have Hst := Lib.hid hst; have Hfl := Lib.hid hfl
    have hb1 : (0 : Int) ≤ (s[k].toNat : Int) ∧ (s[k].toNat : Int) ≤ 255 := by have := s[k].toNat_lt; omega
    have cl := refLetter_any (s[k].toNat : Int) hb1.1 hb1.2 w
    have cd := refDigit_any (s[k].toNat : Int) hb1.1 hb1.2 w
    clear hst hfl hg hb1
    cases hL1 : letrI (s[k].toNat : Int)
    ·
     rw [hL1] at cl
     have HL1 := Lib.hid hL1; clear hL1
     cases hD1 : digI (s[k].toNat : Int)
     ·
      rw [hD1] at cd
      have HD1 := Lib.hid hD1; clear hD1
      have Cl := Lib.hid cl; have Cd := Lib.hid cd; clear cl cd
      by_cases h95 : (s[k].toNat : Int) = 95
      ·
       have H95 := Lib.hid h95
       have g95 : ((s[k].toNat : Int) != 95) = false := by simpa using h95
       clear h95
       go_wp2_with (first | (go_at_call 107; refine Cl.out.mono ?_; rintro e w' ⟨rfl, rfl⟩) | (go_at_call 108; refine Cd.out.mono ?_; rintro e w' ⟨rfl, rfl⟩))
       go_round
       case rel => exact ⟨k + 1, by omega, by go_num, by rw [Hst.out, Hall.out, HL1.out, HD1.out]; simpa using H95.out⟩
       case measure => simp [intOf]; omega
      ·
       have H95 := Lib.hid h95
       have g95 : ((s[k].toNat : Int) != 95) = true := by simpa using h95
       clear h95
       go_wp2_with (first | (go_at_call 107; refine Cl.out.mono ?_; rintro e w' ⟨rfl, rfl⟩) | (go_at_call 108; refine Cd.out.mono ?_; rintro e w' ⟨rfl, rfl⟩))
       go_ret
       exact ⟨ret_bool (by rw [HN.out, HL.out, Hfl.out (by rw [HL1.out, HD1.out]; simpa using H95.out)]; rfl), rfl⟩
     ·
      rw [hD1] at cd
      have HD1 := Lib.hid hD1; clear hD1
      have Cl := Lib.hid cl; have Cd := Lib.hid cd; clear cl cd
      go_wp2_with (first | (go_at_call 107; refine Cl.out.mono ?_; rintro e w' ⟨rfl, rfl⟩) | (go_at_call 108; refine Cd.out.mono ?_; rintro e w' ⟨rfl, rfl⟩))
      go_round
      case rel => exact ⟨k + 1, by omega, by go_num, by rw [Hst.out, Hall.out, HL1.out, HD1.out]; rfl⟩
      case measure => simp [intOf]; omega
    ·
     rw [hL1] at cl
     have HL1 := Lib.hid hL1; clear hL1
     have Cl := Lib.hid cl; clear cl cd
     go_wp2_with (go_at_call 107; refine Cl.out.mono ?_; rintro e w' ⟨rfl, rfl⟩)
     go_round
     case rel => exact ⟨k + 1, by omega, by go_num, by rw [Hst.out, Hall.out, HL1.out]; rfl⟩
     case measure => simp [intOf]; omega
   ·
    obtain rfl : k = s.size := by omega
    have hfin : s.data.toList.take s.size = s.data.toList := List.take_of_length_le (by rw [Hlen.out]; exact Nat.le_refl _)
    have Hfin := Lib.hid hfin; clear hfin
    go_wp2
    go_ret
    exact ⟨ret_bool (by rw [HN.out, HL.out, ← Hfin.out, Hall.out]; rfl), rfl⟩

set_option maxHeartbeats 1000000 in
theorem refSlot_any (l : LU) (hl : l.ok) (A : Array Value) (hA : A = l.cells.toArray) (s : Str) (w : World) :
 Calls Tryz.prog 33 #[.agg A, .string s] w fun x w' => x = .returned (.int .i64 (idxF (fun y => decide (y = s)) l.b + 1)) ∧ Below w.heap.size w w' := by
 have hbk : Bk (w.alloc (.cells A 25)) w.heap.size 25 l.cells.toArray := by rw [← hA]; exact Bk.new _ _ _
 have Hbk := Lib.hid hbk; have Hl := Lib.hid hl
 have Hbw := Lib.hid (bt_new w (.cells A 25))
 clear hbk hA hl
 go_enter Tryz.func33, Tryz.ntmps33
 go_upto_region 2 with fail
 generalize (w.alloc (.cells A 25)) = W0 at Hbk Hbw ⊢
 generalize w.heap.size = g at Hbk ⊢
 go_loop [5] (fun i => ∃ k : Nat, k ≤ 9 ∧ i = .int .i64 k ∧ ∀ j, j < k → decide (l.b.getD j .empty = s) = false) (fun i => 9 - (intOf i).toNat)
 case atStart => exact ⟨0, Nat.zero_le _, rfl, by intro j hj; omega⟩
 case round =>
  obtain ⟨k, hk, rfl, hj⟩ := hrel
  have Hj := Lib.hid hj; clear hj
  by_cases hlt : k < 9
  ·
   have hc1 := LU.cell_b Hl.out Hbk.out k hlt
   generalize he : l.b.getD k .empty = e at hc1
   have He := Lib.hid he; clear he
   by_cases hq : e = s
   ·
    have ht := tl_eq hq
    have Hq := Lib.hid hq; clear hq
    go_wp2
    go_ret
    exact ⟨ret_int (by rw [idxF_hit _ _ .empty k (by rw [Hl.out.1]; exact hlt) Hj.out (by rw [He.out, Hq.out]; simp)]), Hbw.out⟩
   ·
    have ht := tl_ne hq
    have Hq := Lib.hid hq; clear hq
    go_wp2
    go_round
    case rel =>
     refine ⟨k + 1, by omega, by go_num, fun j hj => ?_⟩
     rcases Nat.lt_succ_iff_lt_or_eq.1 hj with h1 | rfl
     ·
      exact Hj.out j h1
     ·
      rw [He.out]; simpa using Hq.out
    case measure => simp [intOf]; omega
  ·
   obtain rfl : k = 9 := by omega
   go_wp2
   go_ret
   exact ⟨ret_int (by rw [idxF_miss _ _ .empty (fun j hj => Hj.out j (by rw [Hl.out.1] at hj; exact hj))]; rfl), Hbw.out⟩
end Go.Proofs.YtmagppkclnebjaaGreatDoor
