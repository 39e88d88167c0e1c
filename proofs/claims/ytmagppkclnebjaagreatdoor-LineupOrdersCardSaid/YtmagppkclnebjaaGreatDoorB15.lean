/- append([]string{}, came...) inside a region that draws its order; what LineupOrders carries. -/
import Derived.Test.YtmagppkclnebjaaGreatDoorB9
import Derived.Test.YtmagppkclnebjaaGreatDoorB14
import Derived.Laws.AppendOwnNone
set_option linter.unusedVariables false
set_option linter.unusedSimpArgs false
set_option linter.unusedSimpArgs false
namespace Go.Proofs.YtmagppkclnebjaaGreatDoor
open Go.RowKit
open L

set_option maxRecDepth 100000 in
theorem step_app {ops : Array Oper} {o : Oper} {a : Act} {w : World} {K : Act → World → Prop} {Q : Exit → Act → World → Prop} {E : Prop} (hgd : o.guard = none) (s x : Operand)
    (ho : o.op = .call { callee := .builtin .append, args := #[s, x], argTypes := #[26, 26] }) (v : Value) (hs : a.eval s = v)
    (C : Option Addr) (n c : Nat) (came : List Str) (hx : a.eval x = .slice C n c) (base : Nat) (hown : w.ownsRow base 9 1 v 0 []) (hn : came.length = n) (hr : Rd w C (came.map Value.string)) (hnil : C = none → n = 0 ∧ c = 0) (h1000 : n ≤ 1000) (hbase : base ≤ w.heap.size)
    (h : ∀ A' c' w', Rd w' A' (came.map Value.string) → w.grownBy w' v.ownBlock → K (a.put o.dst (.slice A' n c')) w') :
    if Region.wanted o (yielded ops a.tmps) = true then Oper.wp Tryz.prog o a w K Q else E := by
  have hw : Region.wanted o (yielded ops a.tmps) = true := by simp [Region.wanted, hgd]
  rw [if_pos hw]
  obtain ⟨i0, hi, hz0, hz1, hz2⟩ := info_parts infoS
  have key : ∃ v' w', (Builtin.append_ #[26, 26] o.type #[v, .slice C n c]).run Tryz.prog w = .ok v' w' ∧ w'.ownsRow base 9 1 v' n (came.map Value.string) ∧ w.grownBy w' v.ownBlock := by
    cases C with
    | none =>
      obtain ⟨rfl, rfl⟩ := hnil rfl
      have h0 : came = [] := List.eq_nil_of_length_eq_zero hn
      refine ⟨v, w, run_append_owned_none (P := Tryz.prog) (w := w) base 26 o.type 9 i0 1 Tryz.underlying26 hi v 0 [] hown, by rw [h0]; exact hown, ⟨rfl, rfl, rfl, Nat.le_refl _, fun _ _ _ => rfl⟩⟩
    | some ad =>
      have hcell : ∀ j u, (came.map Value.string)[j]? = some u → w.cell? (ad.add j) = some u := fun j u hu => by
        have hj := (List.getElem?_eq_some_iff.1 hu).1
        obtain ⟨b, off, e, hc⟩ := hr.at_ hj
        injection e with e
        subst e
        rw [Addr.add_mid, hc, hu]
      obtain ⟨v', w', h1, h2, h3, _⟩ := run_append_own (P := Tryz.prog) (w := w) base 26 o.type 9 i0 (.string { data := #[] }) 1 16 Tryz.underlying26 hi hz0 hz1 hz2 rfl (by decide) v 0 [] hown ad n c (came.map Value.string) (by simp [hn]) hcell (strs_oneCell came) (by unfold maxLen; omega) (by omega) hbase
      exact ⟨v', w', h1, by simpa using h2, h3⟩
  obtain ⟨v', w', hrun, h2, h3⟩ := key
  obtain ⟨A', c', rfl⟩ := slk_form (SlK.of_own h2)
  unfold Oper.wp execOp
  simp only [ho, resolve, invoke, builtin, Sem.run_bind, Sem.run_pure, Result.andThen_ok, List.map_toArray, List.map_cons, List.map_nil, hs, hx, hrun]
  obtain ⟨_, A2, c2, e, hr2⟩ := SlK.of_own h2
  injection e with e1 _ e3
  subst e1; subst e3
  exact h A' c' w' hr2 h3
theorem bkRange {W : World} {g : Nat} {ty : TypeId} {oc : List Value} (h : Bk W g ty oc.toArray) : W.rangeAt g 0 oc := fun j v hv => by
  rw [h.cell, List.getElem?_toArray, Nat.zero_add]; exact hv
end Go.Proofs.YtmagppkclnebjaaGreatDoor
