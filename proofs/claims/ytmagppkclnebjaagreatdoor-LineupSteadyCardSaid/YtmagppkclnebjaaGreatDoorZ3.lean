/- Print's text is the one of the plain law; its size; what Print and Parse are to one another. -/
import Derived.Test.YtmagppkclnebjaaGreatDoorZ2
import Derived.Test.YtmagppkclnebjaaGreatDoorB8
import Derived.Test.YtmagppkclnebjaaGreatDoorB4
set_option linter.unusedVariables false
set_option linter.unusedSimpArgs false
set_option linter.unusedSimpArgs false
set_option linter.unusedVariables false
namespace Go.Proofs.YtmagppkclnebjaaGreatDoor
open Go.RowKit
open L

theorem range18 : List.range 18 = List.range 9 ++ (List.range 9).map (9 + ·) := by decide
theorem printL_eq (t : Tms) (l : List Chg) : printL t l = printD t l := by
 have e0 : sideT t 0 9 = ((List.range 9).map fun k => slotB (cOf t k) ++ [10]).flatten := by
  unfold sideT
  rw [List.flatMap_def]
  congr 1
 have e1 : sideT t 1 9 = ((List.range 9).map fun k => slotB (cOf t (9 + k)) ++ [10]).flatten := by
  unfold sideT
  rw [List.flatMap_def]
  congr 1
 have e2 : chgT l = (l.map fun d => chgB d ++ [10]).flatten := by
  unfold chgT
  rw [List.flatMap_def]
  congr 1
 unfold printL printD bodies
 rw [e0, e1, e2, range18, List.map_append, List.map_append, List.map_append, List.flatten_append, List.flatten_append, List.map_map, List.map_map, List.map_map, List.map_map]
 rfl
theorem flat_len (m : Nat) : ∀ bs : List (List UInt8), (∀ b ∈ bs, b.length ≤ m) → ((bs.map (· ++ [10])).flatten).length ≤ bs.length * (m + 1)
 | [], _ => by simp
 | b :: r, h => by
  have ih := flat_len m r (fun x hx => h x (List.mem_cons_of_mem _ hx))
  have hb := h b (by simp)
  simp only [List.map_cons, List.flatten_cons, List.length_append, List.length_cons, List.length_nil]
  rw [Nat.add_mul, Nat.one_mul]; omega
theorem printD_len {t : Tms} (ht : t.ok) {l : List Chg} (h : checkChanges t l = 0) (h8 : l.length ≤ 8) : (printD t l).length ≤ 2626 := by
 have hfit := fit_of t ht (cc_parts h).1
 have hb : ∀ b ∈ bodies t l, b.length ≤ 100 := fun b hb => by
  unfold bodies at hb
  rcases List.mem_append.1 hb with hb | hb
  ·
   obtain ⟨k, hk, rfl⟩ := List.mem_map.1 hb
   have hk := List.mem_range.1 hk
   have hs : ((k / 9 : Nat) : Int) = 0 ∨ ((k / 9 : Nat) : Int) = 1 := by omega
   have h1 := hfit.name _ (((k % 9 : Nat) : Int) + 1) hs (by omega) (by omega)
   have h2 := hfit.pos _ (((k % 9 : Nat) : Int) + 1) hs (by omega) (by omega)
   exact slotJoin t ((k / 9 : Nat) : Int) (((k % 9 : Nat) : Int) + 1) (by omega) (by omega) (by omega) h1
  ·
   obtain ⟨d, hd, rfl⟩ := List.mem_map.1 hb
   exact chgJoin d ((cc_parts h).2.2.1 d hd)
 have := flat_len 100 (bodies t l) hb
 have hl : (bodies t l).length = 18 + l.length := by unfold bodies; simp
 unfold printD
 rw [hl] at this
 omega
theorem printD_ge {t : Tms} {l : List Chg} (ht : t.ok) (h : checkChanges t l = 0) : 18 ≤ (printD t l).length := by
 have H := (LinesOk.of ht h).free
 have key : ∀ bs : List (List UInt8), bs.length ≤ ((bs.map (· ++ [10])).flatten).length := fun bs => by
  induction bs with
  | nil => simp
  | cons b r ih => simp only [List.map_cons, List.flatten_cons, List.length_append, List.length_cons, List.length_nil]; omega
 have := key (bodies t l)
 have hl : (bodies t l).length = 18 + l.length := by unfold bodies; simp
 unfold printD
 omega
/-- the facts of LineupPrints about a printed text -/
structure PrtC (t : Tms) (l : List Chg) (x : Str) : Prop where
 size : 18 ≤ x.size ∧ x.size ≤ 2626
 back : parseR x = ⟨t, l, 0, 0⟩
 torn : parseR (x.extract 0 (x.size - 1)) = ⟨.zero, [], ((17 + l.length : Nat) : Int), 25⟩
theorem prtC_of {t : Tms} (ht : t.ok) {l : List Chg} (h : checkChanges t l = 0) (h8 : l.length ≤ 8) : PrtC t l (printR t l) := by
 have hx : (printR t l).data.toList = printD t l := by
  unfold printR
  rw [if_neg (by rw [h]; simp), printL_eq]
 have hs : (printR t l).size = (printD t l).length := by rw [← hx, Array.length_toList]; rfl
 have h1 := printD_len ht h h8
 have h2 := printD_ge ht h
 have hd : ((printR t l).extract 0 ((printR t l).size - 1)).data.toList = (printD t l).dropLast := by
  rw [Go.Lib.extract_data, hx, hs, List.drop_zero, Nat.sub_zero, List.dropLast_eq_take]
 have hds : ((printR t l).extract 0 ((printR t l).size - 1)).size ≤ 4096 := by
  rw [Go.Lib.size_eq, hd, List.length_dropLast]; omega
 exact ⟨by omega, parse_print ht h _ hx (by omega), parse_torn ht h _ hd hds⟩
/-- what is parsed is printed as it was -/
theorem print_again (s : Str) (h : (parseR s).e = 0) : (parseR s).t.ok ∧ checkChanges (parseR s).t (parseR s).l = 0 ∧ printR (parseR s).t (parseR s).l = s := by
 obtain ⟨h1, h2, h3⟩ := print_parse s h
 refine ⟨h1, h2, str_ext ?_⟩
 unfold printR
 rw [if_neg (by rw [h2]; simp), printL_eq, h3]
end Go.Proofs.YtmagppkclnebjaaGreatDoor
