/- The plain law of LineupTurns: names in their order, the first deviation, the improper names. -/
import Derived.Test.YtmagppkclnebjaaGreatDoorQa
import Derived.Test.YtmagppkclnebjaaGreatDoorA14
import Derived.Test.YtmagppkclnebjaaGreatDoorA11
set_option linter.unusedVariables false
set_option linter.unusedSimpArgs false
set_option linter.unusedSimpArgs false
namespace Go.Proofs.YtmagppkclnebjaaGreatDoor
open L

/-- n names in the order of a lineup, from slot index i on -/
def L.seqF (X : LU) (i n : Nat) : List Str := (List.range n).map fun j => X.b.getD ((i + j) % 9) .empty
theorem seqF_len (X : LU) (i n : Nat) : (seqF X i n).length = n := by simp [seqF]
theorem seqF_zero (X : LU) (i : Nat) : seqF X i 0 = [] := rfl
theorem seqF_cons (X : LU) (i n : Nat) : seqF X i (n + 1) = X.b.getD (i % 9) .empty :: seqF X (i + 1) n := by
  unfold seqF
  rw [List.range_succ_eq_map, List.map_cons, List.map_map]
  congr 1
  apply List.map_congr_left
  intro j _
  simp only [Function.comp_apply]
  congr 2; omega
theorem seqF_succ (X : LU) (i n : Nat) : seqF X i (n + 1) = seqF X i n ++ [X.b.getD ((i + n) % 9) .empty] := by
  unfold seqF
  rw [List.range_succ, List.map_append]; rfl
theorem seqF_mod (X : LU) (i n : Nat) : seqF X (i % 9) n = seqF X i n := by
  unfold seqF
  apply List.map_congr_left
  intro j _
  congr 1; omega
theorem seqF_get (X : LU) (i n j : Nat) (h : j < n) : (seqF X i n).getD j .empty = X.b.getD ((i + j) % 9) .empty := by
  simp [seqF, List.getD, h]
theorem seqF_mem (X : LU) (hX : X.ok) (i n : Nat) : ∀ s ∈ seqF X i n, s ∈ X.b := by
  intro s hs
  simp only [seqF, List.mem_map, List.mem_range] at hs
  obtain ⟨j, _, rfl⟩ := hs
  have hl : (i + j) % 9 < X.b.length := by rw [hX.1]; omega
  simp [List.getD, List.getElem?_eq_getElem hl]
theorem devL_seq (X : LU) : ∀ (n k i : Nat) (r : List Str), i < 9 → devL X k i (seqF X i n ++ r) = devL X (k + n) ((i + n) % 9) r
  | 0, k, i, r, hi => by rw [seqF_zero, List.nil_append, Nat.add_zero, Nat.add_zero, Nat.mod_eq_of_lt hi]
  | n + 1, k, i, r, hi => by
    rw [seqF_cons, List.cons_append, devL, Nat.mod_eq_of_lt hi, if_neg (by simp), ← seqF_mod, devL_seq X n (k + 1) ((i + 1) % 9) r (by omega)]
    congr 1 <;> omega
theorem devL_none_seq (X : LU) (k i n : Nat) (hi : i < 9) : devL X k i (seqF X i n) = none := by
  have := devL_seq X n k i [] hi
  rw [List.append_nil] at this
  rw [this]; rfl
theorem devL_none (X : LU) : ∀ (came : List Str) (k i : Nat), i < 9 → devL X k i came = none → came = seqF X i came.length
  | [], _, _, _, _ => rfl
  | s :: r, k, i, hi, h => by
    rw [devL] at h
    by_cases hs : s = X.b.getD i .empty
    · rw [if_neg (by simp [hs])] at h
      have := devL_none X r (k + 1) ((i + 1) % 9) (by omega) h
      rw [List.length_cons, seqF_cons, Nat.mod_eq_of_lt hi, ← hs, ← seqF_mod, ← this]
    · rw [if_pos hs] at h; cases h
theorem devL_some (X : LU) : ∀ (came : List Str) (k i : Nat) (d : Dev), i < 9 → devL X k i came = some d →
    ∃ j, j < came.length ∧ came.take j = seqF X i j ∧ came.getD j .empty ≠ X.b.getD ((i + j) % 9) .empty ∧ d = ⟨((k + j : Nat) : Int), X.b.getD ((i + j) % 9) .empty, came.getD j .empty, X.b.getD ((i + j + 1) % 9) .empty⟩
  | [], _, _, _, _, h => by cases h
  | s :: r, k, i, d, hi, h => by
    rw [devL] at h
    by_cases hs : s = X.b.getD i .empty
    · rw [if_neg (by simp [hs])] at h
      obtain ⟨j, h1, h2, h3, h4⟩ := devL_some X r (k + 1) ((i + 1) % 9) d (by omega) h
      have e1 : ((i + 1) % 9 + j) % 9 = (i + (j + 1)) % 9 := by omega
      have e2 : ((i + 1) % 9 + j + 1) % 9 = (i + (j + 1) + 1) % 9 := by omega
      have e3 : k + 1 + j = k + (j + 1) := by omega
      rw [e1] at h3
      rw [e1, e2, e3] at h4
      refine ⟨j + 1, by simpa using h1, ?_, by simpa using h3, by simpa using h4⟩
      rw [List.take_succ_cons, h2, seqF_cons, Nat.mod_eq_of_lt hi, ← hs, seqF_mod]
    · rw [if_pos hs] at h
      refine ⟨0, by simp, rfl, ?_, ?_⟩
      · rw [Nat.add_zero, Nat.mod_eq_of_lt hi]; exact hs
      · rw [Nat.add_zero, Nat.add_zero, Nat.mod_eq_of_lt hi]
        injection h with h
        exact h.symm
theorem idx_at (X : LU) (hX : X.ok) (hn : X.b.Nodup) (i : Nat) (hi : i < 9) : idxF (fun y => decide (y = X.b.getD i .empty)) X.b = i := by
  have hl : i < X.b.length := by rw [hX.1]; exact hi
  refine idxF_hit _ _ .empty i hl (fun j hj => ?_) (by simp)
  have hj' : j < X.b.length := by omega
  simp only [List.getD, List.getElem?_eq_getElem hj', List.getElem?_eq_getElem hl, Option.getD_some, decide_eq_false_iff_not]
  intro e
  have := (List.getElem_inj hn).1 e
  omega
theorem behind_at (X : LU) (hX : X.ok) (hn : X.b.Nodup) (i : Nat) (hi : i < 9) : behindOf X (X.b.getD i .empty) = (i + 1) % 9 := by
  unfold behindOf
  rw [idx_at X hX hn i hi]; omega
theorem impL_seq (X : LU) (hX : X.ok) (hn : X.b.Nodup) : ∀ (n k i : Nat) (r : List Str), i < 9 → impL X k (X.b.getD i .empty) (seqF X i n ++ r) = impL X (k + n) (X.b.getD ((i + n) % 9) .empty) r
  | 0, k, i, r, hi => by rw [seqF_zero, List.nil_append, Nat.add_zero, Nat.add_zero, Nat.mod_eq_of_lt hi]
  | n + 1, k, i, r, hi => by
    rw [seqF_cons, List.cons_append, impL, Nat.mod_eq_of_lt hi, if_neg (by simp), List.nil_append, behind_at X hX hn i hi, ← seqF_mod, impL_seq X hX hn n (k + 1) ((i + 1) % 9) r (by omega), show k + 1 + n = k + (n + 1) by omega, show ((i + 1) % 9 + n) % 9 = (i + (n + 1)) % 9 by omega]
theorem impL_none_seq (X : LU) (hX : X.ok) (hn : X.b.Nodup) (k i n : Nat) (hi : i < 9) : impL X k (X.b.getD i .empty) (seqF X i n) = [] := by
  have := impL_seq X hX hn n k i [] hi
  rw [List.append_nil] at this
  rw [this]; rfl
/-- names up to the first deviation, then any -/
theorem impL_first (X : LU) (hX : X.ok) (hn : X.b.Nodup) (i j : Nat) (hi : i < 9) (s : Str) (r : List Str) (hs : s ≠ X.b.getD ((i + j) % 9) .empty) :
    impL X 0 (X.b.getD i .empty) (seqF X i j ++ s :: r) = (j : Int) :: impL X (j + 1) (X.b.getD (behindOf X s) .empty) r := by
  rw [impL_seq X hX hn j 0 i (s :: r) hi, impL, if_pos hs, Nat.zero_add]; rfl
theorem idx_mem0 (X : LU) (s : Str) (h : s ∈ X.b) : 0 ≤ idxF (fun y => decide (y = s)) X.b := by
  have := idxF_nonneg (fun y => decide (y = s)) X.b
  rw [any_mem, decide_eq_true h] at this
  simpa using this
theorem list_split (l : List Str) (j : Nat) (h : j < l.length) : l = l.take j ++ l.getD j .empty :: l.drop (j + 1) := by
  have e : l.getD j .empty = l[j] := by simp [List.getD, List.getElem?_eq_getElem h]
  rw [e, List.getElem_cons_drop, List.take_append_drop]
theorem take_snoc (l : List Str) (j : Nat) (h : j < l.length) : l.take (j + 1) = l.take j ++ [l.getD j .empty] := by
  rw [List.take_succ_eq_append_getElem h]
  simp [List.getD, List.getElem?_eq_getElem h]
theorem came_ok (X : LU) (h0 : checkLineup X = 0) (i : Nat) (hi : i < 9) (l : List Str) (hl : l.length ≤ 256) (hm : ∀ s ∈ l, s ∈ X.b) : checkCame X ((i : Int) + 1) l = 0 := by
  have e1 : withinE ((i : Int) + 1) 1 9 = 0 := by
    unfold withinE whenE
    rw [if_neg (by simp; omega)]
  have e2 : whenE (decide (256 < (l.length : Int))) 5 = 0 := by
    unfold whenE
    rw [if_neg (by simp; omega)]
  have e : checkCameE X ((i : Int) + 1) l.length = 0 := by
    unfold checkCameE
    simp [firstE, h0, e1, e2]
  unfold checkCame
  rw [if_neg (by rw [e]; simp)]
  unfold whenE
  rw [if_neg]
  rw [List.any_eq_true]
  rintro ⟨s, hs, h⟩
  simp [hm s hs] at h
theorem devR_none (X : LU) (h0 : checkLineup X = 0) (i : Nat) (hi : i < 9) (l : List Str) (hl : l.length ≤ 256) (hm : ∀ s ∈ l, s ∈ X.b) (h : devL X 0 i l = none) : deviateR X ((i : Int) + 1) l = (Dev.zero, 7) := by
  unfold deviateR
  rw [if_neg (by rw [came_ok X h0 i hi l hl hm]; simp), show ((i : Int) + 1 - 1).toNat = i by omega, h]
theorem devR_some (X : LU) (h0 : checkLineup X = 0) (i : Nat) (hi : i < 9) (l : List Str) (hl : l.length ≤ 256) (hm : ∀ s ∈ l, s ∈ X.b) (d : Dev) (h : devL X 0 i l = some d) : deviateR X ((i : Int) + 1) l = (d, 0) := by
  unfold deviateR
  rw [if_neg (by rw [came_ok X h0 i hi l hl hm]; simp), show ((i : Int) + 1 - 1).toNat = i by omega, h]
theorem impR_eq (X : LU) (h0 : checkLineup X = 0) (i : Nat) (hi : i < 9) (l : List Str) (hl : l.length ≤ 256) (hm : ∀ s ∈ l, s ∈ X.b) : improperR X ((i : Int) + 1) l = (impL X 0 (X.b.getD i .empty) l, 0) := by
  unfold improperR
  rw [if_neg (by rw [came_ok X h0 i hi l hl hm]; simp), show ((i : Int) + 1 - 1).toNat = i by omega]
/-- names in their order: no deviation, no improper name -/
theorem turns_proper (X : LU) (hX : X.ok) (h0 : checkLineup X = 0) (i n : Nat) (hi : i < 9) (hn : n ≤ 256) : deviateR X ((i : Int) + 1) (seqF X i n) = (Dev.zero, 7) ∧ improperR X ((i : Int) + 1) (seqF X i n) = ([], 0) := by
  have hl : (seqF X i n).length ≤ 256 := by rw [seqF_len]; exact hn
  refine ⟨devR_none X h0 i hi _ hl (seqF_mem X hX i n) (devL_none_seq X 0 i n hi), ?_⟩
  rw [impR_eq X h0 i hi _ hl (seqF_mem X hX i n), impL_none_seq X hX (checkLineup_zero h0).once 0 i n hi]
/-- what the law of the turns asks of the names that came up -/
inductive Turned (X : LU) (i : Nat) (names : List Str) : Prop where
  | none (hd : deviateR X ((i : Int) + 1) names = (Dev.zero, 7)) (hi : improperR X ((i : Int) + 1) names = ([], 0)) (he : names = seqF X i names.length)
  | some (j : Nat) (hj : j < names.length) (I : List Int) (hI : I.length ≤ 20) (a : Nat) (ha : 1 ≤ a ∧ a ≤ 9) (p c n : Str) (hp : p = (seqF X i names.length).getD j .empty) (hc : c = names.getD j .empty) (hne : p ≠ c)
      (hd : deviateR X ((i : Int) + 1) names = (⟨(j : Int), p, c, n⟩, 0)) (hi : improperR X ((i : Int) + 1) names = ((j : Int) :: I, 0))
      (h1 : deviateR X ((i : Int) + 1) (names.take j ++ [p]) = (Dev.zero, 7)) (h2 : deviateR X ((i : Int) + 1) (names.take j ++ [p] ++ [n]) = (Dev.zero, 7))
      (hs : idxF (fun y => decide (y = c)) X.b + 1 = (a : Int)) (h3 : improperR X ((i : Int) + 1) (names.take (j + 1) ++ seqF X a 5) = ([(j : Int)], 0))
theorem impL_len5 (X : LU) : ∀ (l : List Str) (k : Nat) (p : Str), (impL X k p l).length ≤ l.length
  | [], _, _ => Nat.le_refl _
  | s :: r, k, p => by
    have := impL_len5 X r (k + 1) (X.b.getD (behindOf X s) .empty)
    rw [impL, List.length_append, List.length_cons]
    generalize (impL X (k + 1) (X.b.getD (behindOf X s) .empty) r).length = q at this ⊢
    split
    · rw [List.length_singleton]; omega
    · rw [List.length_nil]; omega
theorem turned_of (X : LU) (hX : X.ok) (h0 : checkLineup X = 0) (i : Nat) (hi : i < 9) (names : List Str) (hl : names.length ≤ 20) (hm : ∀ s ∈ names, s ∈ X.b) : Turned X i names := by
  have hnd := (checkLineup_zero h0).once
  cases hd : devL X 0 i names with
  | none =>
    have he := devL_none X names 0 i hi hd
    refine .none (devR_none X h0 i hi _ (by omega) hm hd) ?_ he
    rw [impR_eq X h0 i hi _ (by omega) hm]
    conv => lhs; rw [he]
    rw [impL_none_seq X hX hnd 0 i _ hi]
  | some d =>
    obtain ⟨j, hj, ht, hne, rfl⟩ := devL_some X names 0 i d hi hd
    have hcm : names.getD j .empty ∈ X.b := hm _ (by simp [List.getD, List.getElem?_eq_getElem hj])
    have hix := idx_mem0 X (names.getD j .empty) hcm
    have hixl : idxF (fun y => decide (y = names.getD j .empty)) X.b < 9 := by
      obtain ⟨q, hq, e⟩ := List.getElem_of_mem hcm
      have e2 : names.getD j .empty = X.b.getD q .empty := e.symm.trans (by simp [List.getD, List.getElem?_eq_getElem hq])
      rw [e2, idx_at X hX hnd q (by rw [← hX.1]; exact hq)]
      rw [hX.1] at hq; omega
    obtain ⟨a, ha⟩ : ∃ a : Nat, idxF (fun y => decide (y = names.getD j .empty)) X.b + 1 = (a : Int) := ⟨(idxF (fun y => decide (y = names.getD j .empty)) X.b + 1).toNat, by omega⟩
    have hbeh : behindOf X (names.getD j .empty) = a % 9 := by unfold behindOf; rw [ha]; rfl
    have hI := impL_first X hX hnd i j hi (names.getD j .empty) (names.drop (j + 1)) hne
    rw [← ht, ← list_split names j hj] at hI
    have hlI := impL_len5 X (names.drop (j + 1)) (j + 1) (X.b.getD (behindOf X (names.getD j .empty)) .empty)
    rw [List.length_drop] at hlI
    refine .some j hj (impL X (j + 1) (X.b.getD (behindOf X (names.getD j .empty)) .empty) (names.drop (j + 1))) (by omega) a (by omega) (X.b.getD ((i + j) % 9) .empty) (names.getD j .empty) (X.b.getD ((i + j + 1) % 9) .empty) (seqF_get X i names.length j hj).symm rfl (Ne.symm hne) ?_ ?_ ?_ ?_ ha ?_
    · rw [devR_some X h0 i hi _ (by omega) hm _ hd, Nat.zero_add]
    · rw [impR_eq X h0 i hi _ (by omega) hm, hI]
    · rw [ht, ← seqF_succ]
      exact (turns_proper X hX h0 i (j + 1) hi (by omega)).1
    · rw [ht, ← seqF_succ, show i + j + 1 = i + (j + 1) by omega, ← seqF_succ]
      exact (turns_proper X hX h0 i (j + 1 + 1) hi (by omega)).1
    · have hm3 : ∀ s ∈ names.take (j + 1) ++ seqF X a 5, s ∈ X.b := fun s hs => by
        rcases List.mem_append.1 hs with h | h
        · exact hm s (List.mem_of_mem_take h)
        · exact seqF_mem X hX a 5 s h
      rw [impR_eq X h0 i hi _ (by rw [List.length_append, seqF_len, List.length_take]; omega) hm3, take_snoc names j hj, ht, List.append_assoc, List.singleton_append, impL_first X hX hnd i j hi _ _ hne, hbeh, ← seqF_mod X a 5, impL_none_seq X hX hnd (j + 1) (a % 9) 5 (by omega)]
end Go.Proofs.YtmagppkclnebjaaGreatDoor
