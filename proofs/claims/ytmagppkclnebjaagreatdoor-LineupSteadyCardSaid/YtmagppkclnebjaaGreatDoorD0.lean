/- Facts that the walks of the references share: who is known, the next error of a list of changes, rows that a store leaves. -/
import Derived.Test.YtmagppkclnebjaaGreatDoorQd
import Derived.Test.YtmagppkclnebjaaGreatDoorC1
import Derived.Test.YtmagppkclnebjaaGreatDoorA18
import Derived.Test.YtmagppkclnebjaaGreatDoorQp
set_option linter.unusedVariables false
set_option linter.unusedSimpArgs false
set_option linter.unusedSimpArgs false
set_option linter.unusedVariables false
universe u
namespace Go.Proofs.YtmagppkclnebjaaGreatDoor
open Go.RowKit
open L

/- short words for what px.py prints often -/
theorem tkD {P : Program} {md : Region.Mode} {ops : Array Oper} {Q : Exit → Act → World → Prop} {S : World → Prop} {i : Nat} {oi : Oper} {v : Value} {fuel : Nat} {listed : Array Bool} {a : Act} {w : World} (hi : ops[i]? = some oi)
 (h : wpAnyH P md ops Q S fuel (listed.setIfInBounds i true) (a.put oi.dst v) w)
 (hy : ∀ w, S w → (execOp a.eval oi).run P w = .ok (.value v) w := by (intro W hSW; (try dsimp only at hSW); go_simp; with_reducible rfl)) (hS : S w := by assumption)
 (hs : Region.noSelect ops = true := by kernel_rfl) (hf : Region.free md ops listed i = true := by kernel_rfl) (hr : (Region.ready md ops listed).contains i = true := by kernel_rfl)
 (hw : Region.wanted oi (yielded ops a.tmps) = true := by kernel_rfl) (hQ : ∀ c a w, Q (.panic c) (a.put oi.dst v) w → Q (.panic c) a w := by exact fun _ _ _ h => h) : wpAnyH P md ops Q S (fuel + 1) listed a w :=
 wpAnyH_take hi hs hf hr hQ (Or.inl ⟨hw, hy⟩) hS h
theorem keep_own (base : Nat) (e : TypeId) (size n : Nat) (v : Value) (xs : List Value) : Keep (fun W => W.ownsRow base e size v n xs) := fun _ _ h hb => own_below h hb
/-- the names of both teams, as the reference collects them -/
def knR (t : Tms) (k : Nat) : List Str := (List.range k).flatMap fun j => [t.l0.b.getD j .empty, t.l1.b.getD j .empty]
theorem knR_succ (t : Tms) (k : Nat) : knR t (k + 1) = knR t k ++ [t.l0.b.getD k .empty, t.l1.b.getD k .empty] := by
 unfold knR; rw [List.range_succ, List.flatMap_append]; rfl
theorem knR_len (t : Tms) : ∀ k, (knR t k).length = 2 * k
 | 0 => rfl
 | k + 1 => by rw [knR_succ, List.length_append, knR_len t k]; simp; omega
theorem knR_mem (t : Tms) (ht : t.ok) (s : Str) : s ∈ knR t 9 ↔ s ∈ t.l0.b ++ t.l1.b := by
 have key : ∀ (l : List Str), l.length = 9 → (s ∈ l ↔ ∃ j, j < 9 ∧ s = l.getD j .empty) := fun l hl => by
  constructor
  ·
   intro h
   obtain ⟨j, hj, rfl⟩ := List.getElem_of_mem h
   exact ⟨j, by omega, by simp [List.getD, List.getElem?_eq_getElem hj]⟩
  ·
   rintro ⟨j, hj, rfl⟩
   have : j < l.length := by omega
   simp [List.getD, List.getElem?_eq_getElem this]
 unfold knR
 rw [List.mem_flatMap, List.mem_append, key t.l0.b ht.1.1, key t.l1.b ht.2.1]
 constructor
 ·
  rintro ⟨j, hj, h⟩
  have hj9 := List.mem_range.1 hj
  simp at h
  rcases h with h | h
  ·
   exact .inl ⟨j, hj9, by simpa using h⟩
  ·
   exact .inr ⟨j, hj9, by simpa using h⟩
 ·
  rintro (⟨j, hj, h⟩ | ⟨j, hj, h⟩)
  ·
   exact ⟨j, List.mem_range.2 hj, by simp [h]⟩
  ·
   exact ⟨j, List.mem_range.2 hj, by simp [h]⟩
theorem ccLoop_known : ∀ (l : List Chg) (t : Tms) (K K' : List Str) (prev : Option Chg), (∀ s, s ∈ K ↔ s ∈ K') → ccLoop t K prev l = ccLoop t K' prev l
 | [], _, _, _, _, _ => rfl
 | c :: r, t, K, K', prev, h => by
  unfold ccLoop
  rw [ccLoop_known r (t.made c) (K ++ [c.name]) (K' ++ [c.name]) (some c) (fun s => by simp [h s])]
  simp only [h c.name]
theorem cc2_cases (t : Tms) (l : List Chg) (n : Nat) (hn : l.length = n) : checkChanges t l = if checkTeams t ≠ 0 then checkTeams t else if 64 < n then 5 else ccLoop t (t.l0.b ++ t.l1.b) none l := by
 unfold checkChanges
 rw [hn]
 by_cases h : checkTeams t = 0
 ·
  by_cases h64 : 64 < n
  ·
   simp [firstE, h, whenE, h64]
  ·
   simp [firstE, h, whenE, h64]
 ·
  simp [firstE, h]

theorem sets_block {g i : Nat} (hne : i ≠ g) : ∀ (vs : List Value) (q : Nat) (W : World), (W.setCells g q vs).heap[i]? = W.heap[i]?
 | [], _, _ => rfl
 | v :: r, q, W => (sets_block hne r (q + 1) (W.setCell ⟨g, q, none⟩ v)).trans (Below.heap_setCell W ⟨g, q, none⟩ v i hne)
theorem own_setsFar {W : World} {base : Nat} {e : TypeId} {size n g : Nat} {v : Value} {xs : List Value} (h : W.ownsRow base e size v n xs) (hg : g < base) (vs : List Value) (o : Nat) : (W.setCells g o vs).ownsRow base e size v n xs := by
 have hb := below_sets (B := 0) (Nat.zero_le g) (Below.refl 0 W) vs o
 refine h.kept (show W.grownBy (W.setCells g o vs) (some g) from ⟨hb.os, hb.tape, hb.output, hb.size, fun i _ hne => sets_block (fun e => hne (by rw [e])) vs o W⟩) ?_
 cases hv : v.ownBlock with
 | none => exact .inl rfl
 | some r => exact .inr (fun e => by have := (h.lt r hv).1; have h9 := Option.some.inj e; omega)

theorem within_cases (n lo hi : Int) : withinE n lo hi = 0 ∨ withinE n lo hi = 3 := by unfold withinE whenE; split <;> simp
theorem cc_range (T1 : Tms) (K : List Str) (prev : Option Chg) (d : Chg) (r : List Chg) (hs : d.side = 0 ∨ d.side = 1) (h : withinE d.play 0 256 ≠ 0 ∨ withinE d.slot 1 9 ≠ 0 ∨ withinE d.pos 1 9 ≠ 0) : ccLoop T1 K prev (d :: r) = 3 := by
 have e0 : sidedE d.side = 0 := by rcases hs with e | e <;> simp [sidedE, whenE, e]
 have e : checkC d = 3 := by
  unfold checkC
  rcases within_cases d.play 0 256 with h1 | h1
  ·
   rcases within_cases d.slot 1 9 with h2 | h2
   ·
    rcases within_cases d.pos 1 9 with h3 | h3
    ·
     rcases h with h | h | h
     ·
      exact absurd h1 h
     ·
      exact absurd h2 h
     ·
      exact absurd h3 h
    ·
     simp [firstE, e0, h1, h2, h3]
   ·
    simp [firstE, e0, h1, h2]
  ·
   simp [firstE, e0, h1]
 rw [ccLoop, if_pos (by rw [e]; simp), e]
theorem checkC_name (d : Chg) (hs : d.side = 0 ∨ d.side = 1) (h1 : withinE d.play 0 256 = 0) (h2 : withinE d.slot 1 9 = 0) (h3 : withinE d.pos 1 9 = 0) : checkC d = namedE d.name := by
 have e0 : sidedE d.side = 0 := by rcases hs with e | e <;> simp [sidedE, whenE, e]
 unfold checkC
 simp only [firstE, e0, h1, h2, h3, if_true]
 split
 ·
  rename_i h; exact h.symm
 ·
  rfl
theorem cc_name (T1 : Tms) (K : List Str) (prev : Option Chg) (d : Chg) (r : List Chg) (hs : d.side = 0 ∨ d.side = 1) (h1 : withinE d.play 0 256 = 0) (h2 : withinE d.slot 1 9 = 0) (h3 : withinE d.pos 1 9 = 0) (h : isName d.name = false) : ccLoop T1 K prev (d :: r) = 8 := by
 have e : checkC d = 8 := by rw [checkC_name d hs h1 h2 h3]; simp [namedE, whenE, h]
 rw [ccLoop, if_pos (by rw [e]; simp), e]
theorem checkC_fit (d : Chg) (hs : d.side = 0 ∨ d.side = 1) (h1 : withinE d.play 0 256 = 0) (h2 : withinE d.slot 1 9 = 0) (h3 : withinE d.pos 1 9 = 0) (h : isName d.name = true) : checkC d = 0 := by
 rw [checkC_name d hs h1 h2 h3]; simp [namedE, whenE, h]
theorem cc_late (T1 : Tms) (K : List Str) (prev : Option Chg) (d : Chg) (r : List Chg) (h : checkC d = 0) (hl : late d prev = true) : ccLoop T1 K prev (d :: r) = 11 := by
 rw [ccLoop, if_neg (by rw [h]; simp), if_pos hl]
theorem cc_twice (T1 : Tms) (K : List Str) (prev : Option Chg) (d : Chg) (r : List Chg) (h : checkC d = 0) (hl : late d prev = false) (h2 : (T1.get d.side).bat d.slot = d.name ∧ (T1.get d.side).at_ d.slot = d.pos) : ccLoop T1 K prev (d :: r) = 9 := by
 rw [ccLoop, if_neg (by rw [h]; simp), if_neg (by rw [hl]; simp), if_pos h2]
theorem cc_player (T1 : Tms) (K : List Str) (prev : Option Chg) (d : Chg) (r : List Chg) (h : checkC d = 0) (hl : late d prev = false) (h2 : ¬ ((T1.get d.side).bat d.slot = d.name ∧ (T1.get d.side).at_ d.slot = d.pos)) (h3 : (T1.get d.side).bat d.slot ≠ d.name ∧ d.name ∈ K) : ccLoop T1 K prev (d :: r) = 24 := by
 rw [ccLoop, if_neg (by rw [h]; simp), if_neg (by rw [hl]; simp), if_neg h2, if_pos h3]
theorem cc_conf (T1 : Tms) (K : List Str) (prev : Option Chg) (d : Chg) (r : List Chg) (h : checkC d = 0) (hl : late d prev = false) (h2 : ¬ ((T1.get d.side).bat d.slot = d.name ∧ (T1.get d.side).at_ d.slot = d.pos)) (h3 : ¬ ((T1.get d.side).bat d.slot ≠ d.name ∧ d.name ∈ K)) (h4 : ends d r = true ∧ ¬ ((T1.made d).get d.side).p.Nodup) : ccLoop T1 K prev (d :: r) = 29 := by
 rw [ccLoop, if_neg (by rw [h]; simp), if_neg (by rw [hl]; simp), if_neg h2, if_neg h3, if_pos h4]
theorem cc_on (T1 : Tms) (K : List Str) (prev : Option Chg) (d : Chg) (r : List Chg) (h : checkC d = 0) (hl : late d prev = false) (h2 : ¬ ((T1.get d.side).bat d.slot = d.name ∧ (T1.get d.side).at_ d.slot = d.pos)) (h3 : ¬ ((T1.get d.side).bat d.slot ≠ d.name ∧ d.name ∈ K)) (h4 : ¬ (ends d r = true ∧ ¬ ((T1.made d).get d.side).p.Nodup)) : ccLoop T1 K prev (d :: r) = ccLoop (T1.made d) (K ++ [d.name]) (some d) r := by
 rw [ccLoop, if_neg (by rw [h]; simp), if_neg (by rw [hl]; simp), if_neg h2, if_neg h3, if_neg h4]

end Go.Proofs.YtmagppkclnebjaaGreatDoor
