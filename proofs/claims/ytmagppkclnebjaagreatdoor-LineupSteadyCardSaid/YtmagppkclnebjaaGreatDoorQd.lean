/- Texts of this seat, joined: The reference: First, HasWord, HasInt, after · The reference: made · The reference: At · The reference: CheckTeams, permuted · The reference: permuted · dugoutlaw03: given, own, first, short; the reference's Short. -/
import Derived.Test.YtmagppkclnebjaaGreatDoorQa
import Derived.WalkMore
import Derived.Test.YtmagppkclnebjaaGreatDoorQg
import Derived.Test.YtmagppkclnebjaaGreatDoorQp
import Derived.Deep.CutRange
import Derived.Test.YtmagppkclnebjaaGreatDoorB11
import Derived.Test.YtmagppkclnebjaaGreatDoorQr
import Derived.OwnWalk
import Derived.Test.YtmagppkclnebjaaGreatDoorA14
import Derived.Laws.Tables
set_option linter.unusedVariables false
set_option linter.unusedSimpArgs false
set_option linter.unusedSimpArgs false
namespace Go.Proofs.YtmagppkclnebjaaGreatDoor
open Go.RowKit
open L

set_option maxHeartbeats 400000 in
theorem refFirst_any (xs : List Int) (A : Option Addr) (n c : Nat) (w : World) (hn : xs.length = n) (hle : n ≤ 100) (h : Rd w A (xs.map (.int .i64))) :
 Calls Tryz.prog 97 #[.slice A n c] w fun x w' => x = .returned (.int .i64 (firstE xs)) ∧ w = w' := by
 have Hn := Lib.hid hn; clear hn
 have Hr := Lib.hid h; clear h
 go_enter Tryz.func97, Tryz.ntmps97
 go_wp2
 go_loop [3] (fun i => ∃ k : Nat, k ≤ n ∧ i = .int .i64 k ∧ firstE xs = firstE (xs.drop k)) (fun i => n - (intOf i).toNat)
 case atStart => exact ⟨0, Nat.zero_le _, rfl, rfl⟩
 case round =>
  obtain ⟨k, hk, rfl, hj⟩ := hrel
  have H := Lib.hid hj; clear hj
  by_cases hlt : k < n
  ·
   obtain ⟨b, off, rfl, hc1⟩ := Hr.out.int (k := k) (by rw [Hn.out]; exact hlt)
   generalize he : xs.getD k 0 = e at hc1
   have He := Lib.hid he; clear he
   have hd : xs.drop k = e :: xs.drop (k + 1) := by
    rw [List.drop_eq_getElem_cons (by have := Hn.out; omega), ← He.out]
    simp [List.getD, List.getElem?_eq_getElem (show k < xs.length by have := Hn.out; omega)]
   have Hd := Lib.hid hd; clear hd
   by_cases h0 : e = 0
   ·
    subst h0
    go_wp2
    go_round
    case rel => exact ⟨k + 1, by omega, by go_num, by rw [H.out, Hd.out]; simp [firstE]⟩
    case measure => simp [intOf]; omega
   ·
    have h1 : (e != 0) = true := by simpa using h0
    go_wp2
    go_ret
    exact ⟨ret_int (by rw [H.out, Hd.out]; simp [firstE, h0]), rfl⟩
  ·
   go_wp2
   go_ret
   exact ⟨ret_int (by rw [H.out, List.drop_of_length_le (by have := Hn.out; omega)]; rfl), rfl⟩

set_option maxHeartbeats 400000 in
theorem hasWord_any (l : List Str) (A : Option Addr) (n c : Nat) (s : Str) (w : World) (hn : l.length = n) (hle : n ≤ 4611686018427387904) (h : Rd w A (l.map .string)) :
 Calls Tryz.prog 54 #[.slice A n c, .string s] w fun x w' => x = .returned (.bool (decide (s ∈ l))) ∧ w = w' := by
 have Hn := Lib.hid hn; clear hn
 have H := Lib.hid h; clear h
 go_enter Tryz.func54, Tryz.ntmps54
 go_wp2
 go_loop [5] (fun i => ∃ k : Nat, k ≤ n ∧ i = .int .i64 k ∧ ∀ j, j < k → l.getD j .empty ≠ s) (fun i => n - (intOf i).toNat)
 case atStart => exact ⟨0, Nat.zero_le _, rfl, by intro j hj; omega⟩
 case round =>
  obtain ⟨k, hk, rfl, hj⟩ := hrel
  have Hj := Lib.hid hj; clear hj
  by_cases hlt : k < n
  ·
   obtain ⟨b, off, rfl, hc1⟩ := H.out.str (k := k) (by rw [Hn.out]; exact hlt)
   generalize he : l.getD k .empty = e at hc1
   have He := Lib.hid he; clear he
   by_cases hq : e = s
   ·
    have ht := tl_eq hq
    have Hq := Lib.hid hq; clear hq
    go_wp2
    go_ret
    refine ⟨ret_bool ?_, rfl⟩
    symm
    rw [decide_eq_true_eq, ← Hq.out, ← He.out]
    have hkl : k < l.length := by rw [Hn.out]; exact hlt
    simp [List.getD, List.getElem?_eq_getElem hkl]
   ·
    have ht := tl_ne hq
    have Hq := Lib.hid hq; clear hq
    go_wp2
    go_round
    case rel =>
     refine ⟨k + 1, by omega, by go_num, fun j hj => ?_⟩
     rcases Nat.lt_succ_iff_lt_or_eq.1 hj with h1 | rfl
     ·
      exact Hj.out j h1
     ·
      rw [He.out]; exact Hq.out
    case measure => simp [intOf]; omega
  ·
   go_wp2
   go_ret
   refine ⟨ret_bool ?_, rfl⟩
   symm
   rw [decide_eq_false_iff_not]
   intro hm
   obtain ⟨j, hj, e⟩ := List.getElem_of_mem hm
   refine Hj.out j (by have := Hn.out; omega) ?_
   rw [← e]; simp [List.getD, List.getElem?_eq_getElem hj]

set_option maxHeartbeats 400000 in
theorem hasInt_any (l : List Int) (A : Option Addr) (n c : Nat) (s : Int) (w : World) (hn : l.length = n) (hle : n ≤ 4611686018427387904) (h : Rd w A (l.map (.int .i64))) :
 Calls Tryz.prog 129 #[.slice A n c, .int .i64 s] w fun x w' => x = .returned (.bool (decide (s ∈ l))) ∧ w = w' := by
 have Hn := Lib.hid hn; clear hn
 have H := Lib.hid h; clear h
 go_enter Tryz.func129, Tryz.ntmps129
 go_wp2
 go_loop [5] (fun i => ∃ k : Nat, k ≤ n ∧ i = .int .i64 k ∧ ∀ j, j < k → l.getD j 0 ≠ s) (fun i => n - (intOf i).toNat)
 case atStart => exact ⟨0, Nat.zero_le _, rfl, by intro j hj; omega⟩
 case round =>
  obtain ⟨k, hk, rfl, hj⟩ := hrel
  have Hj := Lib.hid hj; clear hj
  by_cases hlt : k < n
  ·
   obtain ⟨b, off, rfl, hc1⟩ := H.out.int (k := k) (by rw [Hn.out]; exact hlt)
   generalize he : l.getD k 0 = e at hc1
   have He := Lib.hid he; clear he
   by_cases hq : e = s
   ·
    have ht : (e == s) = true := by simpa using hq
    have Hq := Lib.hid hq; clear hq
    go_wp2
    go_ret
    refine ⟨ret_bool ?_, rfl⟩
    symm
    rw [decide_eq_true_eq, ← Hq.out, ← He.out]
    have hkl : k < l.length := by rw [Hn.out]; exact hlt
    simp [List.getD, List.getElem?_eq_getElem hkl]
   ·
    have ht : (e == s) = false := by simpa using hq
    have Hq := Lib.hid hq; clear hq
    go_wp2
    go_round
    case rel =>
     refine ⟨k + 1, by omega, by go_num, fun j hj => ?_⟩
     rcases Nat.lt_succ_iff_lt_or_eq.1 hj with h1 | rfl
     ·
      exact Hj.out j h1
     ·
      rw [He.out]; exact Hq.out
    case measure => simp [intOf]; omega
  ·
   go_wp2
   go_ret
   refine ⟨ret_bool ?_, rfl⟩
   symm
   rw [decide_eq_false_iff_not]
   intro hm
   obtain ⟨j, hj, e⟩ := List.getElem_of_mem hm
   refine Hj.out j (by have := Hn.out; omega) ?_
   rw [← e]; simp [List.getD, List.getElem?_eq_getElem hj]

set_option maxHeartbeats 1000000 in
theorem after_any (c d : Chg) (w : World) :
 Calls Tryz.prog 83 #[.agg c.val, .agg d.val] w fun x w' => x = .returned (.bool (after c d)) ∧ Below w.heap.size w w' := by
 have hk1 := (Bk.new w 144 c.val).alloc (.cells d.val 144)
 have hk2 := Bk.new (w.alloc (.cells c.val 144)) 144 d.val
 rw [World.size_alloc] at hk2
 have x0 : ((w.alloc (.cells c.val 144)).alloc (.cells d.val 144)).cell? ⟨w.heap.size, 0, none⟩ = some (.int .i64 c.side) := by rw [hk1.cell]; rfl
 have x1 : ((w.alloc (.cells c.val 144)).alloc (.cells d.val 144)).cell? ⟨w.heap.size, 1, none⟩ = some (.int .i64 c.play) := by rw [hk1.cell]; rfl
 have x2 : ((w.alloc (.cells c.val 144)).alloc (.cells d.val 144)).cell? ⟨w.heap.size, 2, none⟩ = some (.int .i64 c.slot) := by rw [hk1.cell]; rfl
 have y0 : ((w.alloc (.cells c.val 144)).alloc (.cells d.val 144)).cell? ⟨w.heap.size + 1, 0, none⟩ = some (.int .i64 d.side) := by rw [hk2.cell]; rfl
 have y1 : ((w.alloc (.cells c.val 144)).alloc (.cells d.val 144)).cell? ⟨w.heap.size + 1, 1, none⟩ = some (.int .i64 d.play) := by rw [hk2.cell]; rfl
 have y2 : ((w.alloc (.cells c.val 144)).alloc (.cells d.val 144)).cell? ⟨w.heap.size + 1, 2, none⟩ = some (.int .i64 d.slot) := by rw [hk2.cell]; rfl
 have HB := Lib.hid (bt_alloc (bt_new w (.cells c.val 144)) (.cells d.val 144))
 clear hk1 hk2
 generalize hv : c.val = V at *
 generalize hu : d.val = U at *
 clear hv hu
 by_cases hp : c.play = d.play
 ·
  have hp' : (c.play != d.play) = false := by simpa using hp
  by_cases hs : c.side = d.side
  ·
   have hs' : (c.side != d.side) = false := by simpa using hs
   have ha : after c d = decide (c.slot > d.slot) := by unfold after; rw [if_neg (by simp [hp]), if_neg (by simp [hs])]
   have Ha := Lib.hid ha; clear ha hp hs
   go_enter Tryz.func83, Tryz.ntmps83
   go_wp2
   go_ret
   exact ⟨ret_bool (by rw [Ha.out]), HB.out⟩
  ·
   have hs' : (c.side != d.side) = true := by simpa using hs
   have ha : after c d = decide (c.side > d.side) := by unfold after; rw [if_neg (by simp [hp]), if_pos hs]
   have Ha := Lib.hid ha; clear ha hp hs
   go_enter Tryz.func83, Tryz.ntmps83
   go_wp2
   go_ret
   exact ⟨ret_bool (by rw [Ha.out]), HB.out⟩
 ·
  have hp' : (c.play != d.play) = true := by simpa using hp
  have ha : after c d = decide (c.play > d.play) := by unfold after; rw [if_pos hp]
  have Ha := Lib.hid ha; clear ha hp
  go_enter Tryz.func83, Tryz.ntmps83
  go_wp2
  go_ret
  exact ⟨ret_bool (by rw [Ha.out]), HB.out⟩
end Go.Proofs.YtmagppkclnebjaaGreatDoor

set_option linter.unusedSimpArgs false
namespace Go.Proofs.YtmagppkclnebjaaGreatDoor
open Go.RowKit
open L

theorem info46 : (Tryz.prog.info? 46).map (·.size) = some 36 := by kernel_rfl
theorem info46s (n : Nat) (h : n = 36) : (Tryz.prog.info? 46).map (·.size) = some n := by rw [info46, h]
set_option maxHeartbeats 2000000 in
set_option maxRecDepth 100000 in
theorem refMade_any (t : Tms) (ht : t.ok) (T : Array Value) (hT : T = t.cells.toArray) (c : Chg) (hc : c.okS) (w : World) :
 Calls Tryz.prog 84 #[.agg T, .agg c.val] w fun x w' => x = .returned (.agg (t.made c).cells.toArray) ∧ Below w.heap.size w w' := by
 obtain ⟨hs, h1, h9⟩ := hc
 obtain ⟨k, hk, hsl⟩ : ∃ k : Nat, k < 9 ∧ c.slot = (k : Int) + 1 := ⟨(c.slot - 1).toNat, by omega, by omega⟩
 have Hfin := Lib.hid (Tms.made_cells t ht c hs k hk hsl)
 have Hmok := Lib.hid (Tms.made_ok' t ht c)
 have F0 : Hid (Below w.heap.size w (((w.alloc (.cells T 46)).alloc (.cells c.val 144)).alloc (.cells #[.string { data := #[] }, .string { data := #[] }, .string { data := #[] }, .string { data := #[] }, .string { data := #[] }, .string { data := #[] }, .string { data := #[] }, .string { data := #[] }, .string { data := #[] }, .int .i64 0, .int .i64 0, .int .i64 0, .int .i64 0, .int .i64 0, .int .i64 0, .int .i64 0, .int .i64 0, .int .i64 0, .string { data := #[] }, .string { data := #[] }, .string { data := #[] }, .string { data := #[] }, .string { data := #[] }, .string { data := #[] }, .string { data := #[] }, .string { data := #[] }, .string { data := #[] }, .int .i64 0, .int .i64 0, .int .i64 0, .int .i64 0, .int .i64 0, .int .i64 0, .int .i64 0, .int .i64 0, .int .i64 0] 46)) ∧ Bk (((w.alloc (.cells T 46)).alloc (.cells c.val 144)).alloc (.cells #[.string { data := #[] }, .string { data := #[] }, .string { data := #[] }, .string { data := #[] }, .string { data := #[] }, .string { data := #[] }, .string { data := #[] }, .string { data := #[] }, .string { data := #[] }, .int .i64 0, .int .i64 0, .int .i64 0, .int .i64 0, .int .i64 0, .int .i64 0, .int .i64 0, .int .i64 0, .int .i64 0, .string { data := #[] }, .string { data := #[] }, .string { data := #[] }, .string { data := #[] }, .string { data := #[] }, .string { data := #[] }, .string { data := #[] }, .string { data := #[] }, .string { data := #[] }, .int .i64 0, .int .i64 0, .int .i64 0, .int .i64 0, .int .i64 0, .int .i64 0, .int .i64 0, .int .i64 0, .int .i64 0] 46)) w.heap.size 46 t.cells.toArray ∧
  Bk (((w.alloc (.cells T 46)).alloc (.cells c.val 144)).alloc (.cells #[.string { data := #[] }, .string { data := #[] }, .string { data := #[] }, .string { data := #[] }, .string { data := #[] }, .string { data := #[] }, .string { data := #[] }, .string { data := #[] }, .string { data := #[] }, .int .i64 0, .int .i64 0, .int .i64 0, .int .i64 0, .int .i64 0, .int .i64 0, .int .i64 0, .int .i64 0, .int .i64 0, .string { data := #[] }, .string { data := #[] }, .string { data := #[] }, .string { data := #[] }, .string { data := #[] }, .string { data := #[] }, .string { data := #[] }, .string { data := #[] }, .string { data := #[] }, .int .i64 0, .int .i64 0, .int .i64 0, .int .i64 0, .int .i64 0, .int .i64 0, .int .i64 0, .int .i64 0, .int .i64 0] 46)) (w.heap.size + 1) 144 c.val ∧ ∃ Z : Array Value, Z.size = 36 ∧ Bk (((w.alloc (.cells T 46)).alloc (.cells c.val 144)).alloc (.cells #[.string { data := #[] }, .string { data := #[] }, .string { data := #[] }, .string { data := #[] }, .string { data := #[] }, .string { data := #[] }, .string { data := #[] }, .string { data := #[] }, .string { data := #[] }, .int .i64 0, .int .i64 0, .int .i64 0, .int .i64 0, .int .i64 0, .int .i64 0, .int .i64 0, .int .i64 0, .int .i64 0, .string { data := #[] }, .string { data := #[] }, .string { data := #[] }, .string { data := #[] }, .string { data := #[] }, .string { data := #[] }, .string { data := #[] }, .string { data := #[] }, .string { data := #[] }, .int .i64 0, .int .i64 0, .int .i64 0, .int .i64 0, .int .i64 0, .int .i64 0, .int .i64 0, .int .i64 0, .int .i64 0] 46)) (w.heap.size + 2) 46 Z) := by
  refine ⟨bt_alloc (bt_alloc (bt_new w _) _) _, by rw [← hT]; exact ((Bk.new w 46 T).alloc _).alloc _, ?_, #[.string { data := #[] }, .string { data := #[] }, .string { data := #[] }, .string { data := #[] }, .string { data := #[] }, .string { data := #[] }, .string { data := #[] }, .string { data := #[] }, .string { data := #[] }, .int .i64 0, .int .i64 0, .int .i64 0, .int .i64 0, .int .i64 0, .int .i64 0, .int .i64 0, .int .i64 0, .int .i64 0, .string { data := #[] }, .string { data := #[] }, .string { data := #[] }, .string { data := #[] }, .string { data := #[] }, .string { data := #[] }, .string { data := #[] }, .string { data := #[] }, .string { data := #[] }, .int .i64 0, .int .i64 0, .int .i64 0, .int .i64 0, .int .i64 0, .int .i64 0, .int .i64 0, .int .i64 0, .int .i64 0], rfl, ?_⟩
  ·
   have := (Bk.new (w.alloc (.cells T 46)) 144 c.val).alloc (.cells #[.string { data := #[] }, .string { data := #[] }, .string { data := #[] }, .string { data := #[] }, .string { data := #[] }, .string { data := #[] }, .string { data := #[] }, .string { data := #[] }, .string { data := #[] }, .int .i64 0, .int .i64 0, .int .i64 0, .int .i64 0, .int .i64 0, .int .i64 0, .int .i64 0, .int .i64 0, .int .i64 0, .string { data := #[] }, .string { data := #[] }, .string { data := #[] }, .string { data := #[] }, .string { data := #[] }, .string { data := #[] }, .string { data := #[] }, .string { data := #[] }, .string { data := #[] }, .int .i64 0, .int .i64 0, .int .i64 0, .int .i64 0, .int .i64 0, .int .i64 0, .int .i64 0, .int .i64 0, .int .i64 0] 46)
   rwa [World.size_alloc] at this
  ·
   have := Bk.new ((w.alloc (.cells T 46)).alloc (.cells c.val 144)) 46 #[.string { data := #[] }, .string { data := #[] }, .string { data := #[] }, .string { data := #[] }, .string { data := #[] }, .string { data := #[] }, .string { data := #[] }, .string { data := #[] }, .string { data := #[] }, .int .i64 0, .int .i64 0, .int .i64 0, .int .i64 0, .int .i64 0, .int .i64 0, .int .i64 0, .int .i64 0, .int .i64 0, .string { data := #[] }, .string { data := #[] }, .string { data := #[] }, .string { data := #[] }, .string { data := #[] }, .string { data := #[] }, .string { data := #[] }, .string { data := #[] }, .string { data := #[] }, .int .i64 0, .int .i64 0, .int .i64 0, .int .i64 0, .int .i64 0, .int .i64 0, .int .i64 0, .int .i64 0, .int .i64 0]
   rwa [World.size_alloc, World.size_alloc] at this
 have e1 : ∀ j, j < 9 → t.cells[c.side.toNat * 18 + j]? = some (.string ((t.get c.side).b.getD j .empty)) := fun j hj => Tms.cell_b t ht c.side hs j hj
 have e2 : ∀ j, j < 9 → t.cells[c.side.toNat * 18 + 9 + j]? = some (.int .i64 ((t.get c.side).p.getD j 0)) := fun j hj => Tms.cell_p t ht c.side hs j hj
 have n1 := e1 k hk; have n2 := e2 k hk
 have Hlen := Lib.hid (Tms.size36 t ht)
 generalize (t.get c.side).b.getD k .empty = n at n1
 generalize (t.get c.side).p.getD k 0 = p at n2
 have N1 := Lib.hid n1; have N2 := Lib.hid n2
 have w1 : IntKind.i64.wrap ((k : Int) + 1 - 1) = (k : Int) := by rw [IntWalk.i64_in _ (by omega)]; omega
 have w2 : IntKind.i64.wrap (k : Int) = (k : Int) := IntWalk.i64_in _ (by omega)
 have k0 : (0 : Int) ≤ (k : Int) := by omega
 have k9 : (k : Int) < 9 := by omega
 have Hsl := Lib.hid hsl
 clear h1 h9 hT ht n1 n2 e1 e2 hsl
 generalize hcv : c.val = V at F0
 have Hcv := Lib.hid hcv; clear hcv
 go_enter Tryz.func84, Tryz.ntmps84
 go_upto_region 1 with fail
 generalize (((w.alloc (.cells T 46)).alloc (.cells V 144)).alloc (.cells #[.string { data := #[] }, .string { data := #[] }, .string { data := #[] }, .string { data := #[] }, .string { data := #[] }, .string { data := #[] }, .string { data := #[] }, .string { data := #[] }, .string { data := #[] }, .int .i64 0, .int .i64 0, .int .i64 0, .int .i64 0, .int .i64 0, .int .i64 0, .int .i64 0, .int .i64 0, .int .i64 0, .string { data := #[] }, .string { data := #[] }, .string { data := #[] }, .string { data := #[] }, .string { data := #[] }, .string { data := #[] }, .string { data := #[] }, .string { data := #[] }, .string { data := #[] }, .int .i64 0, .int .i64 0, .int .i64 0, .int .i64 0, .int .i64 0, .int .i64 0, .int .i64 0, .int .i64 0, .int .i64 0] 46)) = W0 at F0 ⊢
 have x0 : W0.cell? ⟨w.heap.size + 1, 0, none⟩ = some (.int .i64 c.side) := by rw [F0.out.2.2.1.cell, ← Hcv.out]; rfl
 have x2 : W0.cell? ⟨w.heap.size + 1, 2, none⟩ = some (.int .i64 ((k : Int) + 1)) := by rw [F0.out.2.2.1.cell, ← Hcv.out, ← Hsl.out]; rfl
 have x3 : W0.cell? ⟨w.heap.size + 1, 3, none⟩ = some (.string c.name) := by rw [F0.out.2.2.1.cell, ← Hcv.out]; rfl
 have y1 : W0.cell? ⟨w.heap.size, c.side.toNat * 18 + k, none⟩ = some (.string n) := by rw [F0.out.2.1.cell, List.getElem?_toArray]; exact N1.out
 have z1 : W0.frozen? ⟨w.heap.size, c.side.toNat * 18 + k, none⟩ = false := F0.out.2.1.frozen _
 have F1 : Hid (Below w.heap.size w (W0.setCell ⟨w.heap.size, c.side.toNat * 18 + k, none⟩ (.string c.name)).drew ∧ Bk (W0.setCell ⟨w.heap.size, c.side.toNat * 18 + k, none⟩ (.string c.name)).drew w.heap.size 46 (t.cells.toArray.setIfInBounds (c.side.toNat * 18 + k) (.string c.name)) ∧
  Bk (W0.setCell ⟨w.heap.size, c.side.toNat * 18 + k, none⟩ (.string c.name)).drew (w.heap.size + 1) 144 V ∧ ∃ Z : Array Value, Z.size = 36 ∧ Bk (W0.setCell ⟨w.heap.size, c.side.toNat * 18 + k, none⟩ (.string c.name)).drew (w.heap.size + 2) 46 Z) := by
  obtain ⟨f0, f1, f2, Z, hZ, f3⟩ := F0.out
  exact ⟨bt_drew (f0.setCell (p := ⟨w.heap.size, c.side.toNat * 18 + k, none⟩) (Nat.le_refl _) _), (f1.set_ _ _).drew, (f2.far (p := ⟨w.heap.size, c.side.toNat * 18 + k, none⟩) (by show w.heap.size + 1 ≠ w.heap.size; omega) _).drew, Z, hZ, (f3.far (p := ⟨w.heap.size, c.side.toNat * 18 + k, none⟩) (by show w.heap.size + 2 ≠ w.heap.size; omega) _).drew⟩
 clear F0
 generalize hsd : c.side = sd at *
 have Hsd := Lib.hid hsd; clear hsd
 generalize hg : w.heap.size = g at *
 have Hg := Lib.hid hg; clear hg
 have hne : g ≠ g + 1 := by omega
 have hbeq : (g == g + 1) = false := by simp
 rcases hs with rfl | rfl
 ·
  simp only [Int.toNat_zero, Int.toNat_one, Nat.zero_mul, Nat.one_mul, Nat.zero_add, Nat.reduceAdd] at x0 y1 z1 F1 N2 Hfin
  go_region_held3 (fun W => W.cell? ⟨g + 1, 0, none⟩ = some (.int .i64 0) ∧ W.cell? ⟨g + 1, 2, none⟩ = some (.int .i64 ((k : Int) + 1)) ∧ W.cell? ⟨g + 1, 3, none⟩ = some (.string c.name)) (go_keep) (fail)
  clear x0 x2 x3 y1 z1
  generalize (W0.setCell ⟨g, k, none⟩ (.string c.name)).drew = W1 at F1 ⊢
  have hoff1 : Hid (W1 = W1) := rfl
  generalize hcs : t.cells.toArray.setIfInBounds (k) (.string c.name) = cs at F1 Hfin
  have hcs2 : cs[9 + k]? = some (.int .i64 p) := by
   rw [← hcs, Array.getElem?_setIfInBounds, if_neg (by omega), List.getElem?_toArray]; exact N2.out
  have x0 : W1.cell? ⟨g + 1, 0, none⟩ = some (.int .i64 0) := by rw [F1.out.2.2.1.cell, ← Hcv.out, ← Hsd.out]; rfl
  have x2 : W1.cell? ⟨g + 1, 2, none⟩ = some (.int .i64 ((k : Int) + 1)) := by rw [F1.out.2.2.1.cell, ← Hcv.out, ← Hsl.out]; rfl
  have x4 : W1.cell? ⟨g + 1, 4, none⟩ = some (.int .i64 c.pos) := by rw [F1.out.2.2.1.cell, ← Hcv.out]; rfl
  have y1 : W1.cell? ⟨g, 9 + k, none⟩ = some (.int .i64 p) := by rw [F1.out.2.1.cell]; exact hcs2
  have z1 : W1.frozen? ⟨g, 9 + k, none⟩ = false := F1.out.2.1.frozen _
  have F2 : Hid (Below g w (W1.setCell ⟨g, 9 + k, none⟩ (.int .i64 c.pos)).drew ∧ Bk (W1.setCell ⟨g, 9 + k, none⟩ (.int .i64 c.pos)).drew g 46 (t.made c).cells.toArray ∧ ∃ Z : Array Value, Z.size = 36 ∧ Bk (W1.setCell ⟨g, 9 + k, none⟩ (.int .i64 c.pos)).drew (g + 2) 46 Z) := by
   obtain ⟨f0, f1, f2, Z, hZ, f3⟩ := F1.out
   refine ⟨by rw [← Hg.out] at f0; rw [← Hg.out]; exact bt_drew (f0.setCell (p := ⟨w.heap.size, 9 + k, none⟩) (Nat.le_refl _) _), ?_, Z, hZ, (f3.far (p := ⟨g, 9 + k, none⟩) (by show g + 2 ≠ g; omega) _).drew⟩
   rw [← Hfin.out]
   exact (f1.set_ _ _).drew
  clear F1 hcs hcs2
  go_upto_region 2 with fail
  go_region_held3 (fun W => W.cell? ⟨g + 1, 0, none⟩ = some (.int .i64 0) ∧ W.cell? ⟨g + 1, 2, none⟩ = some (.int .i64 ((k : Int) + 1)) ∧ W.cell? ⟨g + 1, 4, none⟩ = some (.int .i64 c.pos)) (go_keep) (fail)
  clear x0 x2 x4 y1 z1
  generalize (W1.setCell ⟨g, 9 + k, none⟩ (.int .i64 c.pos)).drew = W2 at F2 ⊢
  obtain ⟨Z, hZ, hbz⟩ := F2.out.2.2
  have Hth : Hid (W2.there (g + 2) 0 (t.made c).cells.toArray.size) := hbz.there _ (by rw [Tms.size36 _ Hmok.out, hZ]; exact Nat.le_refl _)
  have Hi := Lib.hid (info46s (t.made c).cells.toArray.size (Tms.size36 _ Hmok.out))
  have Hone := Lib.hid (Tms.oneCell (t.made c))
  go_wp2_with (first
   | (refine wpList_load_row rfl 46 _ rfl g rfl 46 (t.made c).cells.toArray (0, 0) _ F2.out.2.1 Tryz.underlying46 rfl Hi.out ?_)
   | (refine wp_store_mid 46 (.tmp 4) (.tmp 25) rfl (g + 2) 0 (t.made c).cells.toArray rfl rfl Hth.out Hi.out Hone.out ?_)
   | (refine wpList_store_mid rfl 46 (.tmp 4) (.tmp 25) rfl (g + 2) 0 (t.made c).cells.toArray rfl rfl Hth.out Hi.out Hone.out ?_))
  first
   | refine bodyPost_ret (results_cell_row rfl _ _ (g + 2) 46 (t.made c).cells.toArray (0, 0) _ rfl (hbz.fill (t.made c).cells.toArray (by rw [hZ, Tms.size36 _ Hmok.out])) Tryz.underlying46 rfl Hi.out) rfl ?_
  exact ⟨rfl, by have f0 := F2.out.1; rw [← Hg.out] at f0; exact below_sets (by rw [Hg.out]; omega) f0 _ _⟩
 ·
  simp only [Int.toNat_zero, Int.toNat_one, Nat.zero_mul, Nat.one_mul, Nat.zero_add, Nat.reduceAdd] at x0 y1 z1 F1 N2 Hfin
  go_region_held3 (fun W => W.cell? ⟨g + 1, 0, none⟩ = some (.int .i64 1) ∧ W.cell? ⟨g + 1, 2, none⟩ = some (.int .i64 ((k : Int) + 1)) ∧ W.cell? ⟨g + 1, 3, none⟩ = some (.string c.name)) (go_keep) (fail)
  clear x0 x2 x3 y1 z1
  generalize (W0.setCell ⟨g, 18 + k, none⟩ (.string c.name)).drew = W1 at F1 ⊢
  have hoff1 : Hid (W1 = W1) := rfl
  generalize hcs : t.cells.toArray.setIfInBounds (18 + k) (.string c.name) = cs at F1 Hfin
  have hcs2 : cs[27 + k]? = some (.int .i64 p) := by
   rw [← hcs, Array.getElem?_setIfInBounds, if_neg (by omega), List.getElem?_toArray]; exact N2.out
  have x0 : W1.cell? ⟨g + 1, 0, none⟩ = some (.int .i64 1) := by rw [F1.out.2.2.1.cell, ← Hcv.out, ← Hsd.out]; rfl
  have x2 : W1.cell? ⟨g + 1, 2, none⟩ = some (.int .i64 ((k : Int) + 1)) := by rw [F1.out.2.2.1.cell, ← Hcv.out, ← Hsl.out]; rfl
  have x4 : W1.cell? ⟨g + 1, 4, none⟩ = some (.int .i64 c.pos) := by rw [F1.out.2.2.1.cell, ← Hcv.out]; rfl
  have y1 : W1.cell? ⟨g, 27 + k, none⟩ = some (.int .i64 p) := by rw [F1.out.2.1.cell]; exact hcs2
  have z1 : W1.frozen? ⟨g, 27 + k, none⟩ = false := F1.out.2.1.frozen _
  have F2 : Hid (Below g w (W1.setCell ⟨g, 27 + k, none⟩ (.int .i64 c.pos)).drew ∧ Bk (W1.setCell ⟨g, 27 + k, none⟩ (.int .i64 c.pos)).drew g 46 (t.made c).cells.toArray ∧ ∃ Z : Array Value, Z.size = 36 ∧ Bk (W1.setCell ⟨g, 27 + k, none⟩ (.int .i64 c.pos)).drew (g + 2) 46 Z) := by
   obtain ⟨f0, f1, f2, Z, hZ, f3⟩ := F1.out
   refine ⟨by rw [← Hg.out] at f0; rw [← Hg.out]; exact bt_drew (f0.setCell (p := ⟨w.heap.size, 27 + k, none⟩) (Nat.le_refl _) _), ?_, Z, hZ, (f3.far (p := ⟨g, 27 + k, none⟩) (by show g + 2 ≠ g; omega) _).drew⟩
   rw [← Hfin.out]
   exact (f1.set_ _ _).drew
  clear F1 hcs hcs2
  go_upto_region 2 with fail
  go_region_held3 (fun W => W.cell? ⟨g + 1, 0, none⟩ = some (.int .i64 1) ∧ W.cell? ⟨g + 1, 2, none⟩ = some (.int .i64 ((k : Int) + 1)) ∧ W.cell? ⟨g + 1, 4, none⟩ = some (.int .i64 c.pos)) (go_keep) (fail)
  clear x0 x2 x4 y1 z1
  generalize (W1.setCell ⟨g, 27 + k, none⟩ (.int .i64 c.pos)).drew = W2 at F2 ⊢
  obtain ⟨Z, hZ, hbz⟩ := F2.out.2.2
  have Hth : Hid (W2.there (g + 2) 0 (t.made c).cells.toArray.size) := hbz.there _ (by rw [Tms.size36 _ Hmok.out, hZ]; exact Nat.le_refl _)
  have Hi := Lib.hid (info46s (t.made c).cells.toArray.size (Tms.size36 _ Hmok.out))
  have Hone := Lib.hid (Tms.oneCell (t.made c))
  go_wp2_with (first
   | (refine wpList_load_row rfl 46 _ rfl g rfl 46 (t.made c).cells.toArray (0, 0) _ F2.out.2.1 Tryz.underlying46 rfl Hi.out ?_)
   | (refine wp_store_mid 46 (.tmp 4) (.tmp 25) rfl (g + 2) 0 (t.made c).cells.toArray rfl rfl Hth.out Hi.out Hone.out ?_)
   | (refine wpList_store_mid rfl 46 (.tmp 4) (.tmp 25) rfl (g + 2) 0 (t.made c).cells.toArray rfl rfl Hth.out Hi.out Hone.out ?_))
  first
   | refine bodyPost_ret (results_cell_row rfl _ _ (g + 2) 46 (t.made c).cells.toArray (0, 0) _ rfl (hbz.fill (t.made c).cells.toArray (by rw [hZ, Tms.size36 _ Hmok.out])) Tryz.underlying46 rfl Hi.out) rfl ?_
  exact ⟨rfl, by have f0 := F2.out.1; rw [← Hg.out] at f0; exact below_sets (by rw [Hg.out]; omega) f0 _ _⟩
end Go.Proofs.YtmagppkclnebjaaGreatDoor

set_option linter.unusedSimpArgs false
namespace Go.Proofs.YtmagppkclnebjaaGreatDoor
open Go.RowKit
open L

/-- a store of a struct or an array, in a region that draws its order -/
theorem step_store {P : Program} {ops : Array Oper} {o : Oper} {a : Act} {w : World} {K : Act → World → Prop} {Q : Exit → Act → World → Prop} {E : Prop} (hgd : o.guard = none) (ty : TypeId) (x y : Operand) (ho : o.op = .store ty x y)
 (b off : Nat) (cells : Array Value) (hx : a.eval x = .pointer (some ⟨b, off, none⟩)) (hy : a.eval y = .agg cells)
 (ht : w.there b off cells.size) (hi : (P.info? ty).map (·.size) = some cells.size) (h1 : cells.all (·.oneCell') = true)
 (h : K (a.put o.dst undef) (w.setCells b off cells.toList)) : if Region.wanted o (yielded ops a.tmps) = true then Oper.wp P o a w K Q else E := by
 rw [if_pos (by simp [Region.wanted, hgd])]
 exact wp_store_mid ty x y ho b off cells hx hy ht hi h1 h
/-- a load of a struct or an array, in a region that draws its order -/
theorem step_load {P : Program} {ops : Array Oper} {o : Oper} {a : Act} {w : World} {K : Act → World → Prop} {Q : Exit → Act → World → Prop} {E : Prop} (hgd : o.guard = none) (ty : TypeId) (x : Operand) (ho : o.op = .load ty x)
 (g off : Nat) (hx : a.eval x = .pointer (some ⟨g, off, none⟩)) (xs : List Value) (h : w.rangeAt g off xs) (d : TypeDesc)
 (hu : P.underlying ty = some d) (hd : (match d with | .struct _ | .array _ _ => true | _ => false) = true) (hi : (P.info? ty).map (·.size) = some xs.length)
 (hK : K (a.put o.dst (.agg xs.toArray)) w) : if Region.wanted o (yielded ops a.tmps) = true then Oper.wp P o a w K Q else E := by
 rw [if_pos (by simp [Region.wanted, hgd])]
 exact wp_load_cells ty x ho g off hx xs (fun j hj => by rw [List.getElem?_eq_getElem hj]; exact h j _ (List.getElem?_eq_getElem hj)) d hu hd hi hK
theorem size46' (t : Tms) (ht : t.ok) : (Tryz.prog.info? 46).map (·.size) = some t.cells.length := by rw [info46, ← Tms.size36 t ht, List.size_toArray]
theorem bkRangeT {W : World} {g : Nat} {ty : TypeId} {oc : List Value} (h : Bk W g ty oc.toArray) : W.rangeAt g 0 oc := fun j v hv => by
 rw [h.cell, List.getElem?_toArray, Nat.zero_add]; exact hv
theorem rdcRange {w W : World} {b off k : Nat} {d : Chg} (hc : ∀ j, j < 5 → w.cell? ⟨b, off + k * 5 + j, none⟩ = d.val[j]?) (hb : Below w.heap.size w W) (hlt : b < w.heap.size) : W.rangeAt b (off + k * 5) d.val.toList := fun j v hv => by
 rw [Array.getElem?_toList] at hv
 rw [hb.cell (p := ⟨b, off + k * 5 + j, none⟩) hlt]
 exact (hc j (by have := (Array.getElem?_eq_some_iff.1 hv).1; exact this)).trans hv
theorem rangeAt_far {g b o : Nat} {xs : List Value} (hne : b ≠ g) : ∀ (vs : List Value) (q : Nat) {W : World}, W.rangeAt b o xs → (W.setCells g q vs).rangeAt b o xs
 | [], _, _, h => h
 | v :: r, q, W, h => rangeAt_far hne r (q + 1) (fun j u hu => by
  rw [World.cell?_of_block (Below.heap_setCell W ⟨g, q, none⟩ v b hne)]
  exact h j u hu)
theorem size144D : (Tryz.prog.info? 144).map (·.size) = some 5 := by kernel_rfl
theorem rangeAt_belowD {W W' : World} {g : Nat} {xs : List Value} (h : W.rangeAt g 0 xs) (hb : Below W.heap.size W W') (hg : g < W.heap.size) : W'.rangeAt g 0 xs := fun j v hv => by
 rw [hb.cell (p := ⟨g, 0 + j, none⟩) hg]; exact h j v hv
theorem atAll_cons (t : Tms) (d : Chg) (r : List Chg) (p : Int) : atAll t (d :: r) p = if d.play ≤ p then atAll (t.made d) r p else atAll t r p := rfl

set_option maxHeartbeats 2000000 in
set_option maxRecDepth 100000 in
theorem refAt_any (t : Tms) (ht : t.ok) (T : Array Value) (hT : T = t.cells.toArray) (l : List Chg) (A : Option Addr) (n c : Nat) (hn : l.length = n) (hle : n ≤ 1000) (hok : ∀ d ∈ l, d.okS) (p : Int) (w : World) (hl : RdC w A l) :
 Calls Tryz.prog 40 #[.agg T, .slice A n c, .int .i64 p] w fun x w' => x = .returned (.agg (atAll t l p).cells.toArray) ∧ Below w.heap.size w w' := by
 have F : Hid (Below w.heap.size w ((w.alloc (.cells T 46)).alloc (.cells #[.string { data := #[] }, .string { data := #[] }, .string { data := #[] }, .string { data := #[] }, .string { data := #[] }, .string { data := #[] }, .string { data := #[] }, .string { data := #[] }, .string { data := #[] }, .int .i64 0, .int .i64 0, .int .i64 0, .int .i64 0, .int .i64 0, .int .i64 0, .int .i64 0, .int .i64 0, .int .i64 0, .string { data := #[] }, .string { data := #[] }, .string { data := #[] }, .string { data := #[] }, .string { data := #[] }, .string { data := #[] }, .string { data := #[] }, .string { data := #[] }, .string { data := #[] }, .int .i64 0, .int .i64 0, .int .i64 0, .int .i64 0, .int .i64 0, .int .i64 0, .int .i64 0, .int .i64 0, .int .i64 0] 46)) ∧ Bk ((w.alloc (.cells T 46)).alloc (.cells #[.string { data := #[] }, .string { data := #[] }, .string { data := #[] }, .string { data := #[] }, .string { data := #[] }, .string { data := #[] }, .string { data := #[] }, .string { data := #[] }, .string { data := #[] }, .int .i64 0, .int .i64 0, .int .i64 0, .int .i64 0, .int .i64 0, .int .i64 0, .int .i64 0, .int .i64 0, .int .i64 0, .string { data := #[] }, .string { data := #[] }, .string { data := #[] }, .string { data := #[] }, .string { data := #[] }, .string { data := #[] }, .string { data := #[] }, .string { data := #[] }, .string { data := #[] }, .int .i64 0, .int .i64 0, .int .i64 0, .int .i64 0, .int .i64 0, .int .i64 0, .int .i64 0, .int .i64 0, .int .i64 0] 46)) w.heap.size 46 t.cells.toArray ∧
  ∃ Z : Array Value, Z.size = 36 ∧ Bk ((w.alloc (.cells T 46)).alloc (.cells #[.string { data := #[] }, .string { data := #[] }, .string { data := #[] }, .string { data := #[] }, .string { data := #[] }, .string { data := #[] }, .string { data := #[] }, .string { data := #[] }, .string { data := #[] }, .int .i64 0, .int .i64 0, .int .i64 0, .int .i64 0, .int .i64 0, .int .i64 0, .int .i64 0, .int .i64 0, .int .i64 0, .string { data := #[] }, .string { data := #[] }, .string { data := #[] }, .string { data := #[] }, .string { data := #[] }, .string { data := #[] }, .string { data := #[] }, .string { data := #[] }, .string { data := #[] }, .int .i64 0, .int .i64 0, .int .i64 0, .int .i64 0, .int .i64 0, .int .i64 0, .int .i64 0, .int .i64 0, .int .i64 0] 46)) (w.heap.size + 1) 46 Z) := by
  refine ⟨bt_alloc (bt_new w _) _, by rw [← hT]; exact (Bk.new w 46 T).alloc _, #[.string { data := #[] }, .string { data := #[] }, .string { data := #[] }, .string { data := #[] }, .string { data := #[] }, .string { data := #[] }, .string { data := #[] }, .string { data := #[] }, .string { data := #[] }, .int .i64 0, .int .i64 0, .int .i64 0, .int .i64 0, .int .i64 0, .int .i64 0, .int .i64 0, .int .i64 0, .int .i64 0, .string { data := #[] }, .string { data := #[] }, .string { data := #[] }, .string { data := #[] }, .string { data := #[] }, .string { data := #[] }, .string { data := #[] }, .string { data := #[] }, .string { data := #[] }, .int .i64 0, .int .i64 0, .int .i64 0, .int .i64 0, .int .i64 0, .int .i64 0, .int .i64 0, .int .i64 0, .int .i64 0], rfl, ?_⟩
  have := Bk.new (w.alloc (.cells T 46)) 46 #[.string { data := #[] }, .string { data := #[] }, .string { data := #[] }, .string { data := #[] }, .string { data := #[] }, .string { data := #[] }, .string { data := #[] }, .string { data := #[] }, .string { data := #[] }, .int .i64 0, .int .i64 0, .int .i64 0, .int .i64 0, .int .i64 0, .int .i64 0, .int .i64 0, .int .i64 0, .int .i64 0, .string { data := #[] }, .string { data := #[] }, .string { data := #[] }, .string { data := #[] }, .string { data := #[] }, .string { data := #[] }, .string { data := #[] }, .string { data := #[] }, .string { data := #[] }, .int .i64 0, .int .i64 0, .int .i64 0, .int .i64 0, .int .i64 0, .int .i64 0, .int .i64 0, .int .i64 0, .int .i64 0]
  rwa [World.size_alloc] at this
 have Ht := Lib.hid ht; have Hn := Lib.hid hn; have Hl := Lib.hid hl; have Hok := Lib.hid hok
 clear ht hn hl hT hok
 go_enter Tryz.func40, Tryz.ntmps40
 go_upto_region 1 with fail
 generalize (w.alloc (.cells T 46)).alloc (.cells #[.string { data := #[] }, .string { data := #[] }, .string { data := #[] }, .string { data := #[] }, .string { data := #[] }, .string { data := #[] }, .string { data := #[] }, .string { data := #[] }, .string { data := #[] }, .int .i64 0, .int .i64 0, .int .i64 0, .int .i64 0, .int .i64 0, .int .i64 0, .int .i64 0, .int .i64 0, .int .i64 0, .string { data := #[] }, .string { data := #[] }, .string { data := #[] }, .string { data := #[] }, .string { data := #[] }, .string { data := #[] }, .string { data := #[] }, .string { data := #[] }, .string { data := #[] }, .int .i64 0, .int .i64 0, .int .i64 0, .int .i64 0, .int .i64 0, .int .i64 0, .int .i64 0, .int .i64 0, .int .i64 0] 46) = W1 at F ⊢
 go_upto_region 2 with fail
 go_loopw [7] (fun i wr => ∃ (k : Nat) (T1 : Tms), k ≤ n ∧ i = .int .i64 k ∧ T1.ok ∧ Below w.heap.size w wr ∧ Bk wr w.heap.size 46 T1.cells.toArray ∧ (∃ Z : Array Value, Z.size = 36 ∧ Bk wr (w.heap.size + 1) 46 Z) ∧ atAll t l p = atAll T1 (l.drop k) p) (fun i _ => n - (intOf i).toNat)
 case atStart => exact ⟨0, t, by omega, rfl, Ht.out, F.out.1, F.out.2.1, F.out.2.2, by simp⟩
 case round =>
  obtain ⟨k, T1, hk, rfl, ht1, hb, hbk, ⟨Z, hz, hbz⟩, hat⟩ := hrel
  clear F
  have Ht1 := Lib.hid ht1; have Hb := Lib.hid hb; have Hbk := Lib.hid hbk; have Hz := Lib.hid hz; have Hbz := Lib.hid hbz; have Hat := Lib.hid hat
  clear ht1 hb hbk hz hbz hat
  by_cases hkn : k < n
  ·
   obtain ⟨b, off, rfl, hc⟩ := Hl.out k (by rw [Hn.out]; exact hkn)
   have hb0 : b < w.heap.size := World.block_lt_of_cell? w ⟨b, off + k * 5 + 0, none⟩ (u := .int .i64 (l.getD k ⟨0, 0, 0, .empty, 0⟩).side) (by rw [hc 0 (by omega)]; rfl)
   have hdr : l.drop k = l.getD k ⟨0, 0, 0, .empty, 0⟩ :: l.drop (k + 1) := by
    have hkl : k < l.length := by rw [Hn.out]; exact hkn
    rw [List.drop_eq_getElem_cons hkl]
    simp [List.getD, List.getElem?_eq_getElem hkl]
   have hdo : (l.getD k ⟨0, 0, 0, .empty, 0⟩).okS := Hok.out _ (by
    have hkl : k < l.length := by rw [Hn.out]; exact hkn
    simp [List.getD, List.getElem?_eq_getElem hkl])
   generalize hd : l.getD k ⟨0, 0, 0, .empty, 0⟩ = d at hc hdr hdo
   have Hdr := Lib.hid hdr; have Hdo := Lib.hid hdo; have Hc := Lib.hid hc; clear hd hdr hdo hc
   have c1 : wr.cell? ⟨b, off + k * 5 + 1, none⟩ = some (.int .i64 d.play) := by
    rw [Hb.out.cell (p := ⟨b, off + k * 5 + 1, none⟩) hb0]; exact Hc.out 1 (by omega)
   have q0 : (0 : Int) ≤ (k : Int) := by omega
   have q1 : (k : Int) < (n : Int) := by omega
   by_cases hp : d.play ≤ p
   ·
    have Hp := Lib.hid hp
    go_upto_region 5 with fail
    clear c1
    have Hmade : Hid (∀ W, Calls Tryz.prog 84 #[.agg T1.cells.toArray, .agg d.val.toList.toArray] W fun x w' => x = .returned (.agg (T1.made d).cells.toArray) ∧ Below W.heap.size W w') := fun W => by
     rw [Array.toArray_toList]; exact refMade_any T1 Ht1.out _ rfl d Hdo.out W
    have Hmok := Lib.hid (Tms.made_ok' T1 Ht1.out d)
    have Hone := Lib.hid (Tms.oneCell (T1.made d))
    have Hi := Lib.hid (size46' T1 Ht1.out)
    have Hi2 := Lib.hid (info46s (T1.made d).cells.toArray.size (Tms.size36 _ Hmok.out))
    have Hsz : Hid ((Tryz.prog.info? 144).map (·.size) = some d.val.toList.length) := size144D
    have r1 : (wr.drew).rangeAt w.heap.size 0 T1.cells := bkRangeT Hbk.out.drew
    have r2 : (wr.drew).rangeAt b (off + k * 5) d.val.toList := rdcRange Hc.out (bt_drew Hb.out) hb0
    have hlw : w.heap.size < wr.heap.size := Hbk.out.lt
    have hbw : b < wr.heap.size := by omega
    have Hth : Hid (∀ W, Below wr.drew.heap.size wr.drew W → W.there w.heap.size 0 (T1.made d).cells.toArray.size) := fun W h => (Hbk.out.drew.below h hlw).there _ (by rw [Tms.size36 _ Hmok.out, Tms.size36 _ Ht1.out]; exact Nat.le_refl _)
    generalize hce : d.val.toList = ce at r2 Hmade Hsz
    generalize hcc : T1.cells = cc at r1 Hmade Hi Hbk
    generalize hmc : (T1.made d).cells = mc at Hmade Hone Hi2 Hth
    have Hmc := Lib.hid hmc; have Hcc := Lib.hid hcc
    clear hce hcc hmc
    have Hend : Hid (∀ W, Below wr.drew.heap.size wr.drew W → Below w.heap.size w (W.setCells w.heap.size 0 mc.toArray.toList) ∧ Bk (W.setCells w.heap.size 0 mc.toArray.toList) w.heap.size 46 mc.toArray ∧ Bk (W.setCells w.heap.size 0 mc.toArray.toList) (w.heap.size + 1) 46 Z) := fun W h =>
     ⟨below_sets (Nat.le_refl _) (bt_trans (bt_drew Hb.out) h) _ _, (Hbk.out.drew.below h hlw).fill mc.toArray (by rw [← Hmc.out, ← Hcc.out, Tms.size36 _ Hmok.out, Tms.size36 _ Ht1.out]), Bk.setsFar (by omega) _ _ (Hbz.out.drew.below h Hbz.out.lt)⟩
    refine wp_region_held_drew (S := fun _ => True) (by kernel_rfl) (True.intro) (fun hHeld => ?_)
    refine tkE (i := 1) rfl ?_
    refine tkE (i := 2) rfl ?_
    refine tkE (i := 3) rfl ?_
    refine rdE2 (i := 0) (j := 4) rfl rfl (fun K hK => ?_) (fun K hK => ?_)
    ·
     refine step_load rfl 46 _ rfl w.heap.size 0 rfl cc r1 _ Tryz.underlying46 rfl Hi.out ?_
     refine onE hK True.intro (fun hHeld => ?_)
     clear hK K
     refine rdE (i := 4) rfl (fun K hK => ?_)
     refine step_load rfl 144 _ rfl b (off + k * 5) rfl ce r2 _ Tryz.underlying144 rfl Hsz.out ?_
     refine onE hK True.intro (fun hHeld => ?_)
     clear hK K
     refine rdE (i := 5) rfl (fun K hK => ?_)
     go_simp
     (go_at_call 84; refine (Hmade.out _).mono ?_; rintro e w3 ⟨rfl, hb3⟩)
     go_wp2_with fail
     refine onE hK (True.intro) (fun hHeld => ?_)
     clear hK K
     refine rdE (i := 6) rfl (fun K hK => ?_)
     refine step_store rfl 46 _ _ rfl w.heap.size 0 mc.toArray rfl rfl (Hth.out _ hb3) Hi2.out Hone.out ?_
     refine onE hK True.intro (fun hHeld => ?_)
     clear hK K
     refine wpAnyH_done (by kernel_rfl) ?_ _
     have e1 := Hend.out _ hb3
     clear r1 r2 Hend Hth hHeld
     go_wp2
     go_roundw
     case rel => exact ⟨k + 1, T1.made d, by omega, by go_num, Hmok.out, e1.1, by rw [Hmc.out]; exact e1.2.1, ⟨Z, Hz.out, e1.2.2⟩, by rw [Hat.out, Hdr.out, atAll_cons, if_pos Hp.out]⟩
     case measure => simp [intOf]; omega
    ·
     refine step_load rfl 144 _ rfl b (off + k * 5) rfl ce r2 _ Tryz.underlying144 rfl Hsz.out ?_
     refine onE hK True.intro (fun hHeld => ?_)
     clear hK K
     refine rdE (i := 0) rfl (fun K hK => ?_)
     refine step_load rfl 46 _ rfl w.heap.size 0 rfl cc r1 _ Tryz.underlying46 rfl Hi.out ?_
     refine onE hK True.intro (fun hHeld => ?_)
     clear hK K
     refine rdE (i := 5) rfl (fun K hK => ?_)
     go_simp
     (go_at_call 84; refine (Hmade.out _).mono ?_; rintro e w3 ⟨rfl, hb3⟩)
     go_wp2_with fail
     refine onE hK (True.intro) (fun hHeld => ?_)
     clear hK K
     refine rdE (i := 6) rfl (fun K hK => ?_)
     refine step_store rfl 46 _ _ rfl w.heap.size 0 mc.toArray rfl rfl (Hth.out _ hb3) Hi2.out Hone.out ?_
     refine onE hK True.intro (fun hHeld => ?_)
     clear hK K
     refine wpAnyH_done (by kernel_rfl) ?_ _
     have e1 := Hend.out _ hb3
     clear r1 r2 Hend Hth hHeld
     go_wp2
     go_roundw
     case rel => exact ⟨k + 1, T1.made d, by omega, by go_num, Hmok.out, e1.1, by rw [Hmc.out]; exact e1.2.1, ⟨Z, Hz.out, e1.2.2⟩, by rw [Hat.out, Hdr.out, atAll_cons, if_pos Hp.out]⟩
     case measure => simp [intOf]; omega
   ·
    have Hp := Lib.hid hp
    go_wp2
    go_roundw
    case rel =>
     refine ⟨k + 1, T1, by omega, by go_num, Ht1.out, Hb.out, Hbk.out, ⟨Z, Hz.out, Hbz.out⟩, ?_⟩
     rw [Hat.out, Hdr.out, atAll_cons, if_neg Hp.out]
    case measure => simp [intOf]; omega
  ·
   obtain rfl : k = n := by omega
   obtain ⟨wo, hwo⟩ : ∃ wo : World, wo = wr := ⟨_, rfl⟩
   rw [← hwo] at Hb Hbk Hbz ⊢
   clear hwo
   have Hth : Hid (wo.there (w.heap.size + 1) 0 T1.cells.toArray.size) := Hbz.out.there _ (by rw [Tms.size36 _ Ht1.out, Hz.out]; exact Nat.le_refl _)
   have Hi := Lib.hid (info46s T1.cells.toArray.size (Tms.size36 _ Ht1.out))
   have Hone := Lib.hid (Tms.oneCell T1)
   go_wp2_with (first
    | (refine wpList_load_row rfl 46 _ rfl w.heap.size rfl 46 T1.cells.toArray (0, 0) _ Hbk.out Tryz.underlying46 rfl Hi.out ?_)
    | (refine wp_store_mid 46 (.tmp 6) (.tmp 27) rfl (w.heap.size + 1) 0 T1.cells.toArray rfl rfl Hth.out Hi.out Hone.out ?_)
    | (refine wpList_store_mid rfl 46 (.tmp 6) (.tmp 27) rfl (w.heap.size + 1) 0 T1.cells.toArray rfl rfl Hth.out Hi.out Hone.out ?_))
   refine bodyPost_ret (results_cell_row rfl _ _ (w.heap.size + 1) 46 T1.cells.toArray (0, 0) _ rfl (Hbz.out.fill T1.cells.toArray (by rw [Hz.out, Tms.size36 _ Ht1.out])) Tryz.underlying46 rfl Hi.out) rfl ?_
   refine ⟨by rw [Hat.out, List.drop_of_length_le (by rw [Hn.out]; exact Nat.le_refl _), atAll], below_sets (by omega) Hb.out _ _⟩
end Go.Proofs.YtmagppkclnebjaaGreatDoor

set_option linter.unusedSimpArgs false
namespace Go.Proofs.YtmagppkclnebjaaGreatDoor
open Go.RowKit
open L

theorem tms_range0 {W : World} {g : Nat} {ty : TypeId} {t : Tms} (h : Bk W g ty t.cells.toArray) : W.rangeAt g 0 t.l0.cells := fun j v hv => by
 rw [h.cell, List.getElem?_toArray, Nat.zero_add]
 have hj := (List.getElem?_eq_some_iff.1 hv).1
 simp only [Tms.cells]
 rw [List.getElem?_append_left hj]; exact hv
theorem tms_range1 {W : World} {g : Nat} {ty : TypeId} {t : Tms} (ht : t.ok) (h : Bk W g ty t.cells.toArray) : W.rangeAt g 18 t.l1.cells := fun j v hv => by
 rw [h.cell, List.getElem?_toArray]
 have e : t.l0.cells.length = 18 := LU.cells_len t.l0 ht.1
 simp only [Tms.cells]
 rw [List.getElem?_append_right (by omega), e, show 18 + j - 18 = j by omega]; exact hv
theorem size25D (l : LU) (hl : l.ok) : (Tryz.prog.info? 25).map (·.size) = some l.cells.length := by
 rw [LU.cells_len l hl]; kernel_rfl
theorem both_iff (t : Tms) (ht : t.ok) : (∃ j, j < 9 ∧ t.l1.b.getD j .empty ∈ t.l0.b) ↔ both t = true := by
 unfold both
 rw [List.any_eq_true]
 constructor
 ·
  rintro ⟨j, hj, h⟩
  refine ⟨_, h, ?_⟩
  have : j < t.l1.b.length := by rw [ht.2.1]; exact hj
  simp [List.getD, List.getElem?_eq_getElem this]
 ·
  rintro ⟨s, h1, h2⟩
  simp only [decide_eq_true_eq] at h2
  obtain ⟨j, hj, rfl⟩ := List.getElem_of_mem h2
  exact ⟨j, by rw [ht.2.1] at hj; exact hj, by simpa [List.getD, List.getElem?_eq_getElem hj] using h1⟩
theorem idx_gt (l : List Str) (s : Str) : decide (0 < idxF (fun y => decide (y = s)) l + 1) = decide (s ∈ l) := by
 rw [← any_mem, ← idxF_nonneg]
 congr 1
 rw [eq_iff_iff]
 have := (idxF_bd (fun y => decide (y = s)) l).1
 omega

set_option maxHeartbeats 2000000 in
set_option maxRecDepth 100000 in
theorem refTeams_any (t : Tms) (ht : t.ok) (T : Array Value) (hT : T = t.cells.toArray) (hsz : ∀ s ∈ t.l0.b ++ t.l1.b, s.size ≤ 9223372036854775807) (w : World) :
 Calls Tryz.prog 82 #[.agg T] w fun x w' => x = .returned (.int .i64 (checkTeams t)) ∧ Below w.heap.size w w' := by
 have F : Hid (Below w.heap.size w (w.alloc (.cells T 46)) ∧ Bk (w.alloc (.cells T 46)) w.heap.size 46 t.cells.toArray) := ⟨bt_new w _, by rw [← hT]; exact Bk.new w 46 T⟩
 have Ht := Lib.hid ht
 have H0 : Hid (∀ W, Calls Tryz.prog 16 #[.agg t.l0.cells.toArray] W fun x w' => x = .returned (.int .i64 (checkLineup t.l0)) ∧ Below W.heap.size W w') := fun W => refLineup_any t.l0 ht.1 _ rfl (fun s hs => hsz s (List.mem_append_left _ hs)) W
 have H1 : Hid (∀ W, Calls Tryz.prog 16 #[.agg t.l1.cells.toArray] W fun x w' => x = .returned (.int .i64 (checkLineup t.l1)) ∧ Below W.heap.size W w') := fun W => refLineup_any t.l1 ht.2 _ rfl (fun s hs => hsz s (List.mem_append_right _ hs)) W
 have Hi0 := Lib.hid (size25D t.l0 ht.1)
 have Hi1 := Lib.hid (size25D t.l1 ht.2)
 have Hct : Hid (checkTeams t = if firstE [checkLineup t.l0, checkLineup t.l1] ≠ 0 then firstE [checkLineup t.l0, checkLineup t.l1] else whenE (both t) 9) := rfl
 have Hboth := Lib.hid (both_iff t ht)
 have Hsl : Hid (∀ s W, Calls Tryz.prog 33 #[.agg t.l0.cells.toArray, .string s] W fun x w' => x = .returned (.int .i64 (idxF (fun y => decide (y = s)) t.l0.b + 1)) ∧ Below W.heap.size W w') := fun s W => refSlot_any t.l0 ht.1 _ rfl s W
 clear hT ht hsz
 generalize checkLineup t.l0 = e0 at H0 Hct
 generalize checkLineup t.l1 = e1 at H1 Hct
 go_enter Tryz.func82, Tryz.ntmps82
 go_upto_region 1 with fail
 generalize (w.alloc (.cells T 46)) = W0 at F ⊢
 obtain ⟨P, kP, hP, oP⟩ : ∃ P : World → Prop, Keep P ∧ P W0 ∧ Hid (∀ X, P X → Below w.heap.size w X ∧ Bk X w.heap.size 46 t.cells.toArray) := ⟨fun X => Below w.heap.size w X ∧ Bk X w.heap.size 46 t.cells.toArray, keep_and (keep_below w) (keep_bk _ _ _), F.out, fun _ h => h⟩
 clear F
 have R0 : Hid (∀ X, P X → X.rangeAt w.heap.size 0 t.l0.cells) := fun X h => tms_range0 (oP.out X h).2
 have R1 : Hid (∀ X, P X → X.rangeAt w.heap.size 18 t.l1.cells) := fun X h => tms_range1 Ht.out (oP.out X h).2
 have Hcb : Hid (∀ X, P X → ∀ j, j < 9 → X.cell? ⟨w.heap.size, 18 + j, none⟩ = some (.string (t.l1.b.getD j .empty))) := fun X h j hj => by rw [(oP.out X h).2.cell, List.getElem?_toArray]; exact Tms.cell_b1 t Ht.out j hj
 generalize hc0 : t.l0.cells = c0 at R0 H0 Hi0 Hsl
 generalize hc1 : t.l1.cells = c1 at R1 H1 Hi1
 clear hc0 hc1
 have hP0 : P W0.drew := kP _ _ hP (bt_drew (Below.refl _ W0))
 clear hP
 refine wp_region_held_drew (S := P) (by kernel_rfl) (hP0) (fun hHeld => ?_)
 refine tkE (i := 0) rfl ?_
 refine tkE (i := 3) rfl ?_
 refine ldE (i := 1) rfl rfl rfl (c0) (fun W h => R0.out W h) Tryz.underlying25 rfl (Hi0.out) ?_
 refine ldE (i := 4) rfl rfl rfl (c1) (fun W h => R1.out W h) Tryz.underlying25 rfl (Hi1.out) ?_
 refine rdE (i := 2) rfl (fun K hK => ?_)
 go_simp
 (go_at_call 16; refine (H0.out _).mono ?_; rintro e w2 ⟨rfl, hb2⟩)
 go_wp2_with fail
 refine onE hK (kP _ _ hHeld hb2) (fun hHeld => ?_)
 clear hK K
 refine rdE (i := 5) rfl (fun K hK => ?_)
 go_simp
 (go_at_call 16; refine (H1.out _).mono ?_; rintro e w3 ⟨rfl, hb3⟩)
 go_wp2_with fail
 refine onE hK (kP _ _ hHeld hb3) (fun hHeld => ?_)
 clear hK K
 refine rdE (i := 6) rfl (fun K hK => ?_)
 go_simp
 refine onE hK (kP _ _ hHeld (bt_new w3 _)) (fun hHeld => ?_)
 clear hK K
 have hr4 : Rd (w3.alloc (.cells #[.int .i64 e0, .int .i64 e1] 3)) (some ⟨w3.heap.size, 0, none⟩) ([e0, e1].map (Value.int .i64)) := .of_cells fun k hk => by
  rw [(Bk.new w3 3 _).cell, Nat.zero_add]; simp
 refine rdE (i := 7) rfl (fun K hK => ?_)
 go_simp
 (go_at_call 97; refine (refFirst_any [e0, e1] _ 2 2 _ rfl (by omega) hr4).mono ?_; rintro e w4 ⟨rfl, rfl⟩)
 go_wp2_with fail
 refine onE hK (hHeld) (fun hHeld => ?_)
 clear hK K
 refine rdE (i := 8) rfl (fun K hK => ?_)
 go_simp
 refine onE hK (hHeld) (fun hHeld => ?_)
 clear hK K
 refine wpAnyH_done (by kernel_rfl) ?_ _
 have HE : Hid (firstE [e0, e1] = firstE [e0, e1]) := rfl
 generalize (w3.alloc (.cells #[.int .i64 e0, .int .i64 e1] 3)) = W4 at hHeld ⊢
 clear hr4 hP0
 have hP4 : P W4 := hHeld
 clear hHeld
 generalize firstE [e0, e1] = e at Hct ⊢
 have HPn : Hid (∀ q, P (W4.drewN q)) := fun q => kP _ _ hP4 (bt_drewN (Below.refl _ W4) q)
 go_upto_region 3 with fail
 go_loopw [4, 3] (fun i v wr => ∃ k : Nat, k ≤ 9 ∧ i = .int .i64 k ∧ P wr ∧ ((e ≠ 0 ∧ v = .int .i64 e) ∨ (e = 0 ∧ v = .int .i64 0 ∧ ∀ j, j < k → t.l1.b.getD j .empty ∉ t.l0.b) ∨ (e = 0 ∧ v = .int .i64 9 ∧ both t = true))) (fun i _ _ => 9 - (intOf i).toNat)
 case atStart =>
  refine ⟨0, by omega, rfl, hP4, ?_⟩
  by_cases h : e = 0
  ·
   exact .inr (.inl ⟨h, by rw [h], fun j hj => by omega⟩)
  ·
   exact .inl ⟨h, rfl⟩
 case round =>
  obtain ⟨k, hk, rfl, hPr, hv⟩ := hrel
  clear hP4
  rcases hv with ⟨he, rfl⟩ | ⟨he, rfl, hno⟩ | ⟨he, rfl, hbo⟩
  ·
   have Hc2 : Hid (checkTeams t = e) := by rw [Hct.out, if_pos he]; rfl
   have hez : (e == 0) = false := by simpa using he
   by_cases hk9 : k < 9
   ·
    have d1 : decide ((k : Int) < 9) = true := decide_eq_true (by omega)
    clear he
    go_wp2
    go_ret
    exact ⟨ret_int Hc2.out.symm, (oP.out _ hPr).1⟩
   ·
    have d1 : decide ((k : Int) < 9) = false := decide_eq_false (by omega)
    clear he
    go_wp2
    go_ret
    exact ⟨ret_int Hc2.out.symm, (oP.out _ hPr).1⟩
  ·
   have Hno := Lib.hid hno; have He := Lib.hid he; clear hno he
   by_cases hk9 : k < 9
   ·
    have d1 : decide ((k : Int) < 9) = true := decide_eq_true (by omega)
    have hcb := Hcb.out wr.drew (kP _ _ hPr (bt_drew (Below.refl _ wr))) k hk9
    have hgt := idx_gt t.l0.b (t.l1.b.getD k .empty)
    have hcall := fun W => Hsl.out (t.l1.b.getD k .empty) W
    generalize hs : t.l1.b.getD k .empty = s at hcb hgt hcall
    have Hs := Lib.hid hs; have Hcall := Lib.hid hcall; clear hs hcall
    generalize idxF (fun y => decide (y = s)) t.l0.b + 1 = r at hgt Hcall
    have q0 : (0 : Int) ≤ (k : Int) := by omega
    have q1 : (k : Int) < 9 := by omega
    have hPd : P wr.drew := kP _ _ hPr (bt_drew (Below.refl _ wr))
    have hr0 := R0.out _ hPd
    by_cases hm : s ∈ t.l0.b
    ·
     rw [decide_eq_true hm] at hgt
     have Hm := Lib.hid hm; clear hm
     have hgt' : (0 : Int) < r := of_decide_eq_true hgt
     go_upto_region 5 with fail
     clear d1
     refine wp_region_held_drew (S := fun W => P W ∧ W.cell? ⟨w.heap.size, 18 + k, none⟩ = some (.string s)) (by kernel_rfl) (⟨hPd, hcb⟩) (fun hHeld => ?_)
     refine tkE (i := 0) rfl ?_
     refine ldE (i := 1) rfl rfl rfl (c0) (fun W h => R0.out W h.1) Tryz.underlying25 rfl (Hi0.out) ?_
     refine tkE (i := 2) rfl ?_
     refine tkE (i := 3) rfl ?_
     refine tkE (i := 4) rfl ?_
     refine tkE (i := 5) rfl ?_
     refine tkE (i := 6) rfl ?_
     refine rdE (i := 7) rfl (fun K hK => ?_)
     go_simp
     (go_at_call 33; refine (Hcall.out _).mono ?_; rintro e w5 ⟨rfl, hb5⟩)
     go_wp2_with fail
     refine onE hK (⟨kP _ _ hHeld.1 hb5, by rw [hb5.cell (p := ⟨w.heap.size, 18 + k, none⟩) (oP.out _ hHeld.1).2.lt]; exact hHeld.2⟩) (fun hHeld => ?_)
     clear hK K
     refine tkE (i := 8) rfl ?_
     refine wpAnyH_done (by kernel_rfl) ?_ _
     have hP5 : P w5 := hHeld.1
     clear hHeld hr0 hPd hcb hgt
     go_wp2
     go_roundw
     case rel =>
      refine ⟨k + 1, by omega, by go_num, hP5, .inr (.inr ⟨He.out, rfl, ?_⟩)⟩
      exact Hboth.out.1 ⟨k, hk9, by rw [Hs.out]; exact Hm.out⟩
     case measure => simp [intOf]; omega
    ·
     rw [decide_eq_false hm] at hgt
     have Hm := Lib.hid hm; clear hm
     have hgt' : ¬ (0 : Int) < r := of_decide_eq_false hgt
     go_upto_region 5 with fail
     clear d1
     refine wp_region_held_drew (S := fun W => P W ∧ W.cell? ⟨w.heap.size, 18 + k, none⟩ = some (.string s)) (by kernel_rfl) (⟨hPd, hcb⟩) (fun hHeld => ?_)
     refine tkE (i := 0) rfl ?_
     refine ldE (i := 1) rfl rfl rfl (c0) (fun W h => R0.out W h.1) Tryz.underlying25 rfl (Hi0.out) ?_
     refine tkE (i := 2) rfl ?_
     refine tkE (i := 3) rfl ?_
     refine tkE (i := 4) rfl ?_
     refine tkE (i := 5) rfl ?_
     refine tkE (i := 6) rfl ?_
     refine rdE (i := 7) rfl (fun K hK => ?_)
     go_simp
     (go_at_call 33; refine (Hcall.out _).mono ?_; rintro e w5 ⟨rfl, hb5⟩)
     go_wp2_with fail
     refine onE hK (⟨kP _ _ hHeld.1 hb5, by rw [hb5.cell (p := ⟨w.heap.size, 18 + k, none⟩) (oP.out _ hHeld.1).2.lt]; exact hHeld.2⟩) (fun hHeld => ?_)
     clear hK K
     refine tkE (i := 8) rfl ?_
     refine wpAnyH_done (by kernel_rfl) ?_ _
     have hP5 : P w5 := hHeld.1
     clear hHeld hr0 hPd hcb hgt
     go_wp2
     go_roundw
     case rel =>
      refine ⟨k + 1, by omega, by go_num, hP5, .inr (.inl ⟨He.out, rfl, fun j hj => ?_⟩)⟩
      rcases Nat.lt_succ_iff_lt_or_eq.1 hj with h1 | rfl
      ·
       exact Hno.out j h1
      ·
       rw [Hs.out]; exact Hm.out
     case measure => simp [intOf]; omega
   ·
    have d1 : decide ((k : Int) < 9) = false := decide_eq_false (by omega)
    have Hc2 : Hid (checkTeams t = 0) := by
     rw [Hct.out, if_neg (by rw [He.out]; simp)]
     have : both t = false := by
      rw [Bool.eq_false_iff]; intro hb
      obtain ⟨j, hj, hm⟩ := Hboth.out.2 hb
      exact Hno.out j (by omega) hm
     rw [this]; rfl
    go_wp2
    go_ret
    exact ⟨ret_int Hc2.out.symm, (oP.out _ hPr).1⟩
  ·
   have Hc2 : Hid (checkTeams t = 9) := by rw [Hct.out, if_neg (by rw [he]; simp), hbo]; rfl
   clear he hbo
   by_cases hk9 : k < 9
   ·
    have d1 : decide ((k : Int) < 9) = true := decide_eq_true (by omega)
    go_wp2
    go_ret
    exact ⟨ret_int Hc2.out.symm, (oP.out _ hPr).1⟩
   ·
    have d1 : decide ((k : Int) < 9) = false := decide_eq_false (by omega)
    go_wp2
    go_ret
    exact ⟨ret_int Hc2.out.symm, (oP.out _ hPr).1⟩
end Go.Proofs.YtmagppkclnebjaaGreatDoor

set_option linter.unusedSimpArgs false
namespace Go.Proofs.YtmagppkclnebjaaGreatDoor
open Go.RowKit
open L

theorem nodup_take_succ {α : Type} (l : List α) (k : Nat) (hk : k < l.length) : (l.take (k + 1)).Nodup ↔ (l.take k).Nodup ∧ l[k] ∉ l.take k := by
 rw [List.take_succ_eq_append_getElem hk, List.nodup_append]
 constructor
 ·
  rintro ⟨h1, _, h3⟩
  exact ⟨h1, fun hm => h3 _ hm _ (by simp) rfl⟩
 ·
  rintro ⟨h1, h2⟩
  refine ⟨h1, by simp, fun a ha b hb e => ?_⟩
  have : b = l[k] := by simpa using hb
  exact h2 (this ▸ e ▸ ha)
theorem nodup_take {α : Type} {l : List α} (h : l.Nodup) (k : Nat) : (l.take k).Nodup := h.sublist (List.take_sublist k l)

set_option maxHeartbeats 2000000 in
set_option maxRecDepth 100000 in
theorem permuted_any (l : LU) (hl : l.ok) (A : Array Value) (hA : A = l.cells.toArray) (w : World) :
 Calls Tryz.prog 85 #[.agg A] w fun x w' => x = .returned (.bool (decide l.p.Nodup)) ∧ Below w.heap.size w w' := by
 obtain ⟨i0, hi, hz0, hz1, hz2⟩ := info_parts infoI
 have F : Hid (Below w.heap.size w (w.alloc (.cells A 25)) ∧ Bk (w.alloc (.cells A 25)) w.heap.size 25 l.cells.toArray) := ⟨bt_new w _, by rw [← hA]; exact Bk.new w 25 A⟩
 have Hl := Lib.hid hl
 clear hA hl
 go_enter Tryz.func85, Tryz.ntmps85
 go_upto_region 3 with fail
 generalize (w.alloc (.cells A 25)) = W0 at F ⊢
 go_loopw [4, 3] (fun i v wr => ∃ k : Nat, k ≤ 9 ∧ i = .int .i64 k ∧ Below w.heap.size w wr ∧ Bk wr w.heap.size 25 l.cells.toArray ∧ wr.ownsRow (w.heap.size + 1) 3 1 v k ((l.p.take k).map (.int .i64)) ∧ (l.p.take k).Nodup) (fun i _ _ => 9 - (intOf i).toNat)
 case atStart => exact ⟨0, by omega, rfl, F.out.1, F.out.2, World.ownsRow_nil _ _ _ _, by simp⟩
 case round =>
  obtain ⟨k, hk, rfl, hb, hbk, how, hnd⟩ := hrel
  clear F
  have Hb := Lib.hid hb; have Hbk := Lib.hid hbk; have How := Lib.hid how; have Hnd := Lib.hid hnd
  clear hb hbk how hnd
  by_cases hk9 : k < 9
  ·
   have hkl : k < l.p.length := by rw [Hl.out.2]; exact hk9
   have c1 : wr.cell? ⟨w.heap.size, 9 + k, none⟩ = some (.int .i64 (l.p.getD k 0)) := LU.cell_p' Hl.out Hbk.out k hk9
   have hge : l.p.getD k 0 = l.p[k] := by simp [List.getD, List.getElem?_eq_getElem hkl]
   have hst := nodup_take_succ l.p k hkl
   have htk : l.p.take (k + 1) = l.p.take k ++ [l.p[k]] := List.take_succ_eq_append_getElem hkl
   rw [← hge] at hst htk
   obtain ⟨_, B, c, hv, hr0⟩ := SlK.of_own How.out
   have hcall : Calls Tryz.prog 129 #[.slice B k c, .int .i64 (l.p.getD k 0)] wr fun x w' => x = .returned (.bool (decide (l.p.getD k 0 ∈ l.p.take k))) ∧ wr = w' :=
    hasInt_any (l.p.take k) B k c _ wr (by rw [List.length_take]; omega) (by omega) hr0
   clear hr0
   subst hv
   generalize hs : l.p.getD k 0 = s at c1 hst htk hcall
   have Hst := Lib.hid hst; have Htk := Lib.hid htk; have Hcall := Lib.hid hcall
   clear hst htk hcall hs hge
   by_cases hm : s ∈ l.p.take k
   ·
    rw [decide_eq_true hm] at Hcall
    have Hm := Lib.hid hm; clear hm
    go_wp2_with (go_at_call 129; refine Hcall.out.mono ?_; rintro e w5 ⟨rfl, rfl⟩)
    go_ret
    refine ⟨ret_bool ?_, Hb.out⟩
    symm
    rw [decide_eq_false_iff_not]
    intro hn
    exact (Hst.out.1 (nodup_take hn (k + 1))).2 Hm.out
   ·
    rw [decide_eq_false hm] at Hcall
    have Hm := Lib.hid hm; clear hm
    have hcs := cell_one_new wr (.int .i64 s) 3
    have hlen : (l.p.take k).length = k := by rw [List.length_take]; omega
    go_wp2_with (first
     | (go_at_call 129; refine Hcall.out.mono ?_; rintro e w5 ⟨rfl, rfl⟩)
     | (at_builtin; refine wpList_append_own _ rfl _ _ 34 rfl (w.heap.size + 1) 3 i0 (.int .i64 0) 1 8 Tryz.underlying34 hi hz0 hz1 hz2 rfl (by decide) _ _ _ rfl (How.out.alloc _) ⟨wr.heap.size, 0, none⟩ 1 1 [.int .i64 s] rfl rfl hcs (by simp [Value.oneCell']) (by unfold maxLen; omega) (by omega) (by have := Hb.out.size; have := Hbk.out.lt; simp; omega) ?_; intro v' w5 hown' hgrow hnil))
    have hn1w : ∀ r, (Value.slice B k c).ownBlock = some r → w.heap.size + 1 ≤ r := fun r e => (How.out.lt r e).1
    go_roundw
    case rel =>
     refine ⟨k + 1, by omega, by go_num, (bt_alloc Hb.out _).grown hgrow (by have := Hb.out.size; simp; omega) (fun r e => by have := hn1w r e; omega), (hgrow.block _ (by have := Hbk.out.lt; simp; omega) (fun e => by have := hn1w _ e.symm; omega)).trans (Hbk.out.alloc _), ?_, Hst.out.2 ⟨Hnd.out, Hm.out⟩⟩
     rw [Htk.out]
     simpa using hown'
    case measure => simp [intOf]; omega
  ·
   obtain rfl : k = 9 := by omega
   have hfull : l.p.take 9 = l.p := List.take_of_length_le (by rw [Hl.out.2]; exact Nat.le_refl _)
   have Hn : Hid (l.p.Nodup) := by have := Hnd.out; rwa [hfull] at this
   go_wp2
   go_ret
   exact ⟨ret_bool (decide_eq_true Hn.out).symm, Hb.out⟩
end Go.Proofs.YtmagppkclnebjaaGreatDoor

set_option linter.unusedSimpArgs false
namespace Go.Proofs.YtmagppkclnebjaaGreatDoor
open Go.RowKit
open L

theorem LU.explicit (X : LU) (hX : X.ok) : ∃ a0 a1 a2 a3 a4 a5 a6 a7 a8 : Str, ∃ b0 b1 b2 b3 b4 b5 b6 b7 b8 : Int, X = ⟨[a0, a1, a2, a3, a4, a5, a6, a7, a8], [b0, b1, b2, b3, b4, b5, b6, b7, b8]⟩ := by
 obtain ⟨b, p⟩ := X
 obtain ⟨h1, h2⟩ := hX
 obtain ⟨a0, a1, a2, a3, a4, a5, a6, a7, a8, e1⟩ := list9 b h1
 obtain ⟨b0, b1, b2, b3, b4, b5, b6, b7, b8, e2⟩ := list9 p h2
 exact ⟨a0, a1, a2, a3, a4, a5, a6, a7, a8, b0, b1, b2, b3, b4, b5, b6, b7, b8, by rw [e1, e2]⟩
theorem built54 (t : Tms) (ht : t.ok) : Tryz.prog.built 54 [(0, .agg t.l0.cells.toArray), (1, .agg t.l1.cells.toArray)] = some t.cells.toArray := by
 obtain ⟨X, Y⟩ := t
 obtain ⟨a0, a1, a2, a3, a4, a5, a6, a7, a8, b0, b1, b2, b3, b4, b5, b6, b7, b8, rfl⟩ := LU.explicit X ht.1
 obtain ⟨c0, c1, c2, c3, c4, c5, c6, c7, c8, d0, d1, d2, d3, d4, d5, d6, d7, d8, rfl⟩ := LU.explicit Y ht.2
 kernel_rfl
theorem built46 (t : Tms) (ht : t.ok) : Tryz.prog.built 46 [(0, .agg t.l0.cells.toArray), (1, .agg t.l1.cells.toArray)] = some t.cells.toArray := by
 obtain ⟨X, Y⟩ := t
 obtain ⟨a0, a1, a2, a3, a4, a5, a6, a7, a8, b0, b1, b2, b3, b4, b5, b6, b7, b8, rfl⟩ := LU.explicit X ht.1
 obtain ⟨c0, c1, c2, c3, c4, c5, c6, c7, c8, d0, d1, d2, d3, d4, d5, d6, d7, d8, rfl⟩ := LU.explicit Y ht.2
 kernel_rfl
theorem wpList_build2 {ops : Array Oper} {rest : List Oper} {o : Oper} {a : Act} {w : World} {Q : Exit → Act → World → Prop} (hg : o.guard = none) (t : TypeId) (parts : Array (Nat × Operand)) (ho : o.op = .build t parts) (cells : Array Value) (vs : List (Nat × Value))
 (hv : (parts.map fun (i, x) => (i, a.eval x)).toList = vs) (hb : Tryz.prog.built t vs = some cells)
 (h : wpList Tryz.prog ops Q rest (a.put o.dst (.agg cells)) w) : wpList Tryz.prog ops Q (o :: rest) a w := by
 refine wpList_build hg t parts ho (by rw [hv, hb]; rfl) ?_
 rw [hv, hb]; exact h

theorem wp_build2 {o : Oper} {a : Act} {w : World} {K : Act → World → Prop} {Q : Exit → Act → World → Prop} (t : TypeId) (parts : Array (Nat × Operand)) (ho : o.op = .build t parts) (cells : Array Value) (vs : List (Nat × Value))
 (hv : (parts.map fun (i, x) => (i, a.eval x)).toList = vs) (hb : Tryz.prog.built t vs = some cells)
 (h : K (a.put o.dst (.agg cells)) w) : o.wp Tryz.prog a w K Q := by
 refine wp_build t parts ho (by rw [hv, hb]; rfl) ?_
 rw [hv, hb]; exact h

set_option maxHeartbeats 2000000 in
set_option maxRecDepth 100000 in
theorem given_any (t : Tms) (ht : t.ok) (T : Array Value) (hT : T = t.cells.toArray) (w : World) :
 Calls Tryz.prog 23 #[.agg T] w fun x w' => x = .returned (.agg t.cells.toArray) ∧ Below w.heap.size w w' := by
 have F : Hid (Below w.heap.size w ((w.alloc (.cells T 46)).alloc (.cells #[.string { data := #[] }, .string { data := #[] }, .string { data := #[] }, .string { data := #[] }, .string { data := #[] }, .string { data := #[] }, .string { data := #[] }, .string { data := #[] }, .string { data := #[] }, .int .i64 0, .int .i64 0, .int .i64 0, .int .i64 0, .int .i64 0, .int .i64 0, .int .i64 0, .int .i64 0, .int .i64 0, .string { data := #[] }, .string { data := #[] }, .string { data := #[] }, .string { data := #[] }, .string { data := #[] }, .string { data := #[] }, .string { data := #[] }, .string { data := #[] }, .string { data := #[] }, .int .i64 0, .int .i64 0, .int .i64 0, .int .i64 0, .int .i64 0, .int .i64 0, .int .i64 0, .int .i64 0, .int .i64 0] 54)) ∧ Bk ((w.alloc (.cells T 46)).alloc (.cells #[.string { data := #[] }, .string { data := #[] }, .string { data := #[] }, .string { data := #[] }, .string { data := #[] }, .string { data := #[] }, .string { data := #[] }, .string { data := #[] }, .string { data := #[] }, .int .i64 0, .int .i64 0, .int .i64 0, .int .i64 0, .int .i64 0, .int .i64 0, .int .i64 0, .int .i64 0, .int .i64 0, .string { data := #[] }, .string { data := #[] }, .string { data := #[] }, .string { data := #[] }, .string { data := #[] }, .string { data := #[] }, .string { data := #[] }, .string { data := #[] }, .string { data := #[] }, .int .i64 0, .int .i64 0, .int .i64 0, .int .i64 0, .int .i64 0, .int .i64 0, .int .i64 0, .int .i64 0, .int .i64 0] 54)) w.heap.size 46 t.cells.toArray ∧
  ∃ Z : Array Value, Z.size = 36 ∧ Bk ((w.alloc (.cells T 46)).alloc (.cells #[.string { data := #[] }, .string { data := #[] }, .string { data := #[] }, .string { data := #[] }, .string { data := #[] }, .string { data := #[] }, .string { data := #[] }, .string { data := #[] }, .string { data := #[] }, .int .i64 0, .int .i64 0, .int .i64 0, .int .i64 0, .int .i64 0, .int .i64 0, .int .i64 0, .int .i64 0, .int .i64 0, .string { data := #[] }, .string { data := #[] }, .string { data := #[] }, .string { data := #[] }, .string { data := #[] }, .string { data := #[] }, .string { data := #[] }, .string { data := #[] }, .string { data := #[] }, .int .i64 0, .int .i64 0, .int .i64 0, .int .i64 0, .int .i64 0, .int .i64 0, .int .i64 0, .int .i64 0, .int .i64 0] 54)) (w.heap.size + 1) 54 Z) := by
  refine ⟨bt_alloc (bt_new w _) _, by rw [← hT]; exact (Bk.new w 46 T).alloc _, #[.string { data := #[] }, .string { data := #[] }, .string { data := #[] }, .string { data := #[] }, .string { data := #[] }, .string { data := #[] }, .string { data := #[] }, .string { data := #[] }, .string { data := #[] }, .int .i64 0, .int .i64 0, .int .i64 0, .int .i64 0, .int .i64 0, .int .i64 0, .int .i64 0, .int .i64 0, .int .i64 0, .string { data := #[] }, .string { data := #[] }, .string { data := #[] }, .string { data := #[] }, .string { data := #[] }, .string { data := #[] }, .string { data := #[] }, .string { data := #[] }, .string { data := #[] }, .int .i64 0, .int .i64 0, .int .i64 0, .int .i64 0, .int .i64 0, .int .i64 0, .int .i64 0, .int .i64 0, .int .i64 0], rfl, ?_⟩
  have := Bk.new (w.alloc (.cells T 46)) 54 #[.string { data := #[] }, .string { data := #[] }, .string { data := #[] }, .string { data := #[] }, .string { data := #[] }, .string { data := #[] }, .string { data := #[] }, .string { data := #[] }, .string { data := #[] }, .int .i64 0, .int .i64 0, .int .i64 0, .int .i64 0, .int .i64 0, .int .i64 0, .int .i64 0, .int .i64 0, .int .i64 0, .string { data := #[] }, .string { data := #[] }, .string { data := #[] }, .string { data := #[] }, .string { data := #[] }, .string { data := #[] }, .string { data := #[] }, .string { data := #[] }, .string { data := #[] }, .int .i64 0, .int .i64 0, .int .i64 0, .int .i64 0, .int .i64 0, .int .i64 0, .int .i64 0, .int .i64 0, .int .i64 0]
  rwa [World.size_alloc] at this
 have Ht := Lib.hid ht
 have Hb := Lib.hid (built54 t ht)
 have Hi0 := Lib.hid (size25D t.l0 ht.1)
 have Hi1 := Lib.hid (size25D t.l1 ht.2)
 have Hi := Lib.hid (info54s t.cells.toArray.size (Tms.size36 _ ht))
 have Hone := Lib.hid (Tms.oneCell t)
 clear ht hT
 go_enter Tryz.func23, Tryz.ntmps23
 go_upto_region 1 with fail
 generalize (w.alloc (.cells T 46)).alloc (.cells #[.string { data := #[] }, .string { data := #[] }, .string { data := #[] }, .string { data := #[] }, .string { data := #[] }, .string { data := #[] }, .string { data := #[] }, .string { data := #[] }, .string { data := #[] }, .int .i64 0, .int .i64 0, .int .i64 0, .int .i64 0, .int .i64 0, .int .i64 0, .int .i64 0, .int .i64 0, .int .i64 0, .string { data := #[] }, .string { data := #[] }, .string { data := #[] }, .string { data := #[] }, .string { data := #[] }, .string { data := #[] }, .string { data := #[] }, .string { data := #[] }, .string { data := #[] }, .int .i64 0, .int .i64 0, .int .i64 0, .int .i64 0, .int .i64 0, .int .i64 0, .int .i64 0, .int .i64 0, .int .i64 0] 54) = W1 at F ⊢
 have R0 : Hid (W1.rangeAt w.heap.size 0 t.l0.cells) := tms_range0 F.out.2.1
 have R1 : Hid (W1.rangeAt w.heap.size 18 t.l1.cells) := tms_range1 Ht.out F.out.2.1
 obtain ⟨Z, hZ, hbz⟩ := F.out.2.2
 have Hth : Hid (W1.there (w.heap.size + 1) 0 t.cells.toArray.size) := hbz.there _ (by rw [Tms.size36 _ Ht.out, hZ]; exact Nat.le_refl _)
 generalize t.l0.cells = c0 at R0 Hi0 Hb
 generalize t.l1.cells = c1 at R1 Hi1 Hb
 go_wp2_with (first
  | (refine wpList_load_cells rfl 25 _ rfl w.heap.size 0 rfl c0 (fun j hj => by rw [List.getElem?_eq_getElem hj]; exact R0.out j _ (List.getElem?_eq_getElem hj)) _ Tryz.underlying25 rfl Hi0.out ?_)
  | (refine wpList_load_cells rfl 25 _ rfl w.heap.size 18 rfl c1 (fun j hj => by rw [List.getElem?_eq_getElem hj]; exact R1.out j _ (List.getElem?_eq_getElem hj)) _ Tryz.underlying25 rfl Hi1.out ?_)
  | (refine wpList_build2 rfl 54 _ rfl t.cells.toArray [(0, .agg c0.toArray), (1, .agg c1.toArray)] (by simp only [List.map_toArray, List.map_cons, List.map_nil]; rfl) Hb.out ?_)
  | (refine wp_build2 54 _ rfl t.cells.toArray [(0, .agg c0.toArray), (1, .agg c1.toArray)] (by simp only [List.map_toArray, List.map_cons, List.map_nil]; rfl) Hb.out ?_)
  | (refine wp_store_mid 54 (.tmp 2) (.tmp 7) rfl (w.heap.size + 1) 0 t.cells.toArray rfl rfl Hth.out Hi.out Hone.out ?_)
  | (refine wpList_store_mid rfl 54 (.tmp 2) (.tmp 7) rfl (w.heap.size + 1) 0 t.cells.toArray rfl rfl Hth.out Hi.out Hone.out ?_))
 refine bodyPost_ret (results_cell_row rfl _ _ (w.heap.size + 1) 54 t.cells.toArray (0, 0) _ rfl (hbz.fill t.cells.toArray (by rw [hZ, Tms.size36 _ Ht.out])) Tryz.underlying54 rfl Hi.out) rfl ?_
 exact ⟨rfl, below_sets (by omega) F.out.1 _ _⟩

set_option maxHeartbeats 2000000 in
set_option maxRecDepth 100000 in
theorem own_any (t : Tms) (ht : t.ok) (T : Array Value) (hT : T = t.cells.toArray) (w : World) :
 Calls Tryz.prog 29 #[.agg T] w fun x w' => x = .returned (.agg t.cells.toArray) ∧ Below w.heap.size w w' := by
 have F : Hid (Below w.heap.size w ((w.alloc (.cells T 54)).alloc (.cells #[.string { data := #[] }, .string { data := #[] }, .string { data := #[] }, .string { data := #[] }, .string { data := #[] }, .string { data := #[] }, .string { data := #[] }, .string { data := #[] }, .string { data := #[] }, .int .i64 0, .int .i64 0, .int .i64 0, .int .i64 0, .int .i64 0, .int .i64 0, .int .i64 0, .int .i64 0, .int .i64 0, .string { data := #[] }, .string { data := #[] }, .string { data := #[] }, .string { data := #[] }, .string { data := #[] }, .string { data := #[] }, .string { data := #[] }, .string { data := #[] }, .string { data := #[] }, .int .i64 0, .int .i64 0, .int .i64 0, .int .i64 0, .int .i64 0, .int .i64 0, .int .i64 0, .int .i64 0, .int .i64 0] 46)) ∧ Bk ((w.alloc (.cells T 54)).alloc (.cells #[.string { data := #[] }, .string { data := #[] }, .string { data := #[] }, .string { data := #[] }, .string { data := #[] }, .string { data := #[] }, .string { data := #[] }, .string { data := #[] }, .string { data := #[] }, .int .i64 0, .int .i64 0, .int .i64 0, .int .i64 0, .int .i64 0, .int .i64 0, .int .i64 0, .int .i64 0, .int .i64 0, .string { data := #[] }, .string { data := #[] }, .string { data := #[] }, .string { data := #[] }, .string { data := #[] }, .string { data := #[] }, .string { data := #[] }, .string { data := #[] }, .string { data := #[] }, .int .i64 0, .int .i64 0, .int .i64 0, .int .i64 0, .int .i64 0, .int .i64 0, .int .i64 0, .int .i64 0, .int .i64 0] 46)) w.heap.size 54 t.cells.toArray ∧
  ∃ Z : Array Value, Z.size = 36 ∧ Bk ((w.alloc (.cells T 54)).alloc (.cells #[.string { data := #[] }, .string { data := #[] }, .string { data := #[] }, .string { data := #[] }, .string { data := #[] }, .string { data := #[] }, .string { data := #[] }, .string { data := #[] }, .string { data := #[] }, .int .i64 0, .int .i64 0, .int .i64 0, .int .i64 0, .int .i64 0, .int .i64 0, .int .i64 0, .int .i64 0, .int .i64 0, .string { data := #[] }, .string { data := #[] }, .string { data := #[] }, .string { data := #[] }, .string { data := #[] }, .string { data := #[] }, .string { data := #[] }, .string { data := #[] }, .string { data := #[] }, .int .i64 0, .int .i64 0, .int .i64 0, .int .i64 0, .int .i64 0, .int .i64 0, .int .i64 0, .int .i64 0, .int .i64 0] 46)) (w.heap.size + 1) 46 Z) := by
  refine ⟨bt_alloc (bt_new w _) _, by rw [← hT]; exact (Bk.new w 54 T).alloc _, #[.string { data := #[] }, .string { data := #[] }, .string { data := #[] }, .string { data := #[] }, .string { data := #[] }, .string { data := #[] }, .string { data := #[] }, .string { data := #[] }, .string { data := #[] }, .int .i64 0, .int .i64 0, .int .i64 0, .int .i64 0, .int .i64 0, .int .i64 0, .int .i64 0, .int .i64 0, .int .i64 0, .string { data := #[] }, .string { data := #[] }, .string { data := #[] }, .string { data := #[] }, .string { data := #[] }, .string { data := #[] }, .string { data := #[] }, .string { data := #[] }, .string { data := #[] }, .int .i64 0, .int .i64 0, .int .i64 0, .int .i64 0, .int .i64 0, .int .i64 0, .int .i64 0, .int .i64 0, .int .i64 0], rfl, ?_⟩
  have := Bk.new (w.alloc (.cells T 54)) 46 #[.string { data := #[] }, .string { data := #[] }, .string { data := #[] }, .string { data := #[] }, .string { data := #[] }, .string { data := #[] }, .string { data := #[] }, .string { data := #[] }, .string { data := #[] }, .int .i64 0, .int .i64 0, .int .i64 0, .int .i64 0, .int .i64 0, .int .i64 0, .int .i64 0, .int .i64 0, .int .i64 0, .string { data := #[] }, .string { data := #[] }, .string { data := #[] }, .string { data := #[] }, .string { data := #[] }, .string { data := #[] }, .string { data := #[] }, .string { data := #[] }, .string { data := #[] }, .int .i64 0, .int .i64 0, .int .i64 0, .int .i64 0, .int .i64 0, .int .i64 0, .int .i64 0, .int .i64 0, .int .i64 0]
  rwa [World.size_alloc] at this
 have Ht := Lib.hid ht
 have Hb := Lib.hid (built46 t ht)
 have Hi0 : Hid ((Tryz.prog.info? 33).map (·.size) = some t.l0.cells.length) := by show _ = _; rw [info33, LU.cells_len _ ht.1]
 have Hi1 : Hid ((Tryz.prog.info? 33).map (·.size) = some t.l1.cells.length) := by show _ = _; rw [info33, LU.cells_len _ ht.2]
 have Hi := Lib.hid (info46s t.cells.toArray.size (Tms.size36 _ ht))
 have Hone := Lib.hid (Tms.oneCell t)
 clear ht hT
 go_enter Tryz.func29, Tryz.ntmps29
 go_upto_region 1 with fail
 generalize (w.alloc (.cells T 54)).alloc (.cells #[.string { data := #[] }, .string { data := #[] }, .string { data := #[] }, .string { data := #[] }, .string { data := #[] }, .string { data := #[] }, .string { data := #[] }, .string { data := #[] }, .string { data := #[] }, .int .i64 0, .int .i64 0, .int .i64 0, .int .i64 0, .int .i64 0, .int .i64 0, .int .i64 0, .int .i64 0, .int .i64 0, .string { data := #[] }, .string { data := #[] }, .string { data := #[] }, .string { data := #[] }, .string { data := #[] }, .string { data := #[] }, .string { data := #[] }, .string { data := #[] }, .string { data := #[] }, .int .i64 0, .int .i64 0, .int .i64 0, .int .i64 0, .int .i64 0, .int .i64 0, .int .i64 0, .int .i64 0, .int .i64 0] 46) = W1 at F ⊢
 have R0 : Hid (W1.rangeAt w.heap.size 0 t.l0.cells) := tms_range0 F.out.2.1
 have R1 : Hid (W1.rangeAt w.heap.size 18 t.l1.cells) := tms_range1 Ht.out F.out.2.1
 obtain ⟨Z, hZ, hbz⟩ := F.out.2.2
 have Hth : Hid (W1.there (w.heap.size + 1) 0 t.cells.toArray.size) := hbz.there _ (by rw [Tms.size36 _ Ht.out, hZ]; exact Nat.le_refl _)
 generalize t.l0.cells = c0 at R0 Hi0 Hb
 generalize t.l1.cells = c1 at R1 Hi1 Hb
 go_wp2_with (first
  | (refine wpList_load_cells rfl 33 _ rfl w.heap.size 0 rfl c0 (fun j hj => by rw [List.getElem?_eq_getElem hj]; exact R0.out j _ (List.getElem?_eq_getElem hj)) _ Tryz.underlying33 rfl Hi0.out ?_)
  | (refine wpList_load_cells rfl 33 _ rfl w.heap.size 18 rfl c1 (fun j hj => by rw [List.getElem?_eq_getElem hj]; exact R1.out j _ (List.getElem?_eq_getElem hj)) _ Tryz.underlying33 rfl Hi1.out ?_)
  | (refine wpList_build2 rfl 46 _ rfl t.cells.toArray [(0, .agg c0.toArray), (1, .agg c1.toArray)] (by simp only [List.map_toArray, List.map_cons, List.map_nil]; rfl) Hb.out ?_)
  | (refine wp_build2 46 _ rfl t.cells.toArray [(0, .agg c0.toArray), (1, .agg c1.toArray)] (by simp only [List.map_toArray, List.map_cons, List.map_nil]; rfl) Hb.out ?_)
  | (refine wp_store_mid 46 (.tmp 2) (.tmp 7) rfl (w.heap.size + 1) 0 t.cells.toArray rfl rfl Hth.out Hi.out Hone.out ?_)
  | (refine wpList_store_mid rfl 46 (.tmp 2) (.tmp 7) rfl (w.heap.size + 1) 0 t.cells.toArray rfl rfl Hth.out Hi.out Hone.out ?_))
 refine bodyPost_ret (results_cell_row rfl _ _ (w.heap.size + 1) 46 t.cells.toArray (0, 0) _ rfl (hbz.fill t.cells.toArray (by rw [hZ, Tms.size36 _ Ht.out])) Tryz.underlying46 rfl Hi.out) rfl ?_
 exact ⟨rfl, below_sets (by omega) F.out.1 _ _⟩

theorem lawFirst_any (xs : List Int) (A : Option Addr) (n c : Nat) (w : World) (hn : xs.length = n) (hle : n ≤ 100) (h : Rd w A (xs.map (.int .i64))) :
 Calls Tryz.prog 38 #[.slice A n c] w fun x w' => x = .returned (.int .i64 (firstE xs)) ∧ w = w' := by
 have Hc := Lib.hid (refFirst_any xs A n c w hn hle h)
 clear hn hle h
 go_enter Tryz.func38, Tryz.ntmps38
 go_wp2_with (go_at_call 97; refine Hc.out.mono ?_; rintro e w' ⟨rfl, rfl⟩)
 go_ret
 exact ⟨rfl, rfl⟩
end Go.Proofs.YtmagppkclnebjaaGreatDoor
