/- dugoutlaw03.LineupTurns: if awake is true, it returns true at every lineup, slot and list. -/
import Derived.Test.YtmagppkclnebjaaGreatDoorP5
import Derived.Test.YtmagppkclnebjaaGreatDoorB11
import Derived.Test.YtmagppkclnebjaaGreatDoorB1
import Derived.Test.YtmagppkclnebjaaGreatDoorK3
import Derived.Test.YtmagppkclnebjaaGreatDoorA13
import Derived.BigQuiet
import Derived.Deep.Cut
import Derived.Deep.CutRange
import Derived.Deep.AppendLies
import Derived.Laws.AppendOwnNone
set_option linter.unusedVariables false
set_option linter.unusedSimpArgs false
set_option linter.unusedSimpArgs false
set_option linter.unusedVariables false
namespace Go.Proofs.YtmagppkclnebjaaGreatDoor
open Go.RowKit
open L
universe u

set_option maxRecDepth 100000 in
theorem run_app5 {w : World} (ty : TypeId) (v : Value) (C : Option Addr) (n c : Nat) (came : List Str) (base : Nat) (hown : w.ownsRow base 9 1 v 0 []) (hn : came.length = n) (hr : Rd w C (came.map Value.string)) (hnil : C = none → n = 0 ∧ c = 0) (h1000 : n ≤ 1000) (hbase : base ≤ w.heap.size) :
 ∃ A' c' w', (Builtin.append_ #[26, 26] ty #[v, .slice C n c]).run Tryz.prog w = .ok (.slice A' n c') w' ∧ w'.ownsRow base 9 1 (.slice A' n c') n (came.map Value.string) ∧ w.grownBy w' v.ownBlock := by
 obtain ⟨i0, hi, hz0, hz1, hz2⟩ := info_parts infoS
 have key : ∃ v' w', (Builtin.append_ #[26, 26] ty #[v, .slice C n c]).run Tryz.prog w = .ok v' w' ∧ w'.ownsRow base 9 1 v' n (came.map Value.string) ∧ w.grownBy w' v.ownBlock := by
  cases C with
  | none =>
   obtain ⟨rfl, rfl⟩ := hnil rfl
   have h0 : came = [] := List.eq_nil_of_length_eq_zero hn
   refine ⟨v, w, run_append_owned_none (P := Tryz.prog) (w := w) base 26 ty 9 i0 1 Tryz.underlying26 hi v 0 [] hown, by rw [h0]; exact hown, ⟨rfl, rfl, rfl, Nat.le_refl _, fun _ _ _ => rfl⟩⟩
  | some ad =>
   have hcell : ∀ j u, (came.map Value.string)[j]? = some u → w.cell? (ad.add j) = some u := fun j u hu => by
    have hj := (List.getElem?_eq_some_iff.1 hu).1
    obtain ⟨b, off, e, hc⟩ := hr.at_ hj
    injection e with e
    subst e
    rw [Addr.add_mid, hc, hu]
   obtain ⟨v', w', h1, h2, h3, _⟩ := run_append_own (P := Tryz.prog) (w := w) base 26 ty 9 i0 (.string { data := #[] }) 1 16 Tryz.underlying26 hi hz0 hz1 hz2 rfl (by decide) v 0 [] hown ad n c (came.map Value.string) (by simp [hn]) hcell (strs_oneCell came) (by unfold maxLen; omega) (by omega) hbase
   exact ⟨v', w', h1, by simpa using h2, h3⟩
 obtain ⟨v', w', hrun, h2, h3⟩ := key
 obtain ⟨_, A', c', rfl, _⟩ := SlK.of_own h2
 exact ⟨A', c', w', hrun, h2, h3⟩
set_option maxRecDepth 100000 in
theorem wp_app5 {o : Oper} {a : Act} {w : World} {K : Act → World → Prop} {Q : Exit → Act → World → Prop} (s x : Operand)
 (ho : o.op = .call { callee := .builtin .append, args := #[s, x], argTypes := #[26, 26] }) (v : Value) (hs : a.eval s = v)
 (C : Option Addr) (n c : Nat) (came : List Str) (hx : a.eval x = .slice C n c) (base : Nat) (hown : w.ownsRow base 9 1 v 0 []) (hn : came.length = n) (hr : Rd w C (came.map Value.string)) (hnil : C = none → n = 0 ∧ c = 0) (h1000 : n ≤ 1000) (hbase : base ≤ w.heap.size)
 (h : ∀ A' c' w', w'.ownsRow base 9 1 (.slice A' n c') n (came.map Value.string) → w.grownBy w' v.ownBlock → K (a.put o.dst (.slice A' n c')) w') : Oper.wp Tryz.prog o a w K Q := by
 obtain ⟨A', c', w', hrun, h2, h3⟩ := run_app5 o.type v C n c came base hown hn hr hnil h1000 hbase
 unfold Oper.wp execOp
 simp only [ho, resolve, invoke, builtin, Sem.run_bind, Sem.run_pure, Result.andThen_ok, List.map_toArray, List.map_cons, List.map_nil, hs, hx, hrun]
 exact h A' c' w' h2 h3
theorem step_app5 {ops : Array Oper} {o : Oper} {a : Act} {w : World} {K : Act → World → Prop} {Q : Exit → Act → World → Prop} {E : Prop} (hgd : o.guard = none) (s x : Operand)
 (ho : o.op = .call { callee := .builtin .append, args := #[s, x], argTypes := #[26, 26] }) (v : Value) (hs : a.eval s = v)
 (C : Option Addr) (n c : Nat) (came : List Str) (hx : a.eval x = .slice C n c) (base : Nat) (hown : w.ownsRow base 9 1 v 0 []) (hn : came.length = n) (hr : Rd w C (came.map Value.string)) (hnil : C = none → n = 0 ∧ c = 0) (h1000 : n ≤ 1000) (hbase : base ≤ w.heap.size)
 (h : ∀ A' c' w', w'.ownsRow base 9 1 (.slice A' n c') n (came.map Value.string) → w.grownBy w' v.ownBlock → K (a.put o.dst (.slice A' n c')) w') :
 if Region.wanted o (yielded ops a.tmps) = true then Oper.wp Tryz.prog o a w K Q else E := by
 rw [if_pos (by simp [Region.wanted, hgd])]
 exact wp_app5 s x ho v hs C n c came hx base hown hn hr hnil h1000 hbase h
theorem wpList_app5 {ops : Array Oper} {rest : List Oper} {o : Oper} {a : Act} {w : World} {Q : Exit → Act → World → Prop} (hgd : o.guard = none) (s x : Operand)
 (ho : o.op = .call { callee := .builtin .append, args := #[s, x], argTypes := #[26, 26] }) (v : Value) (hs : a.eval s = v)
 (C : Option Addr) (n c : Nat) (came : List Str) (hx : a.eval x = .slice C n c) (base : Nat) (hown : w.ownsRow base 9 1 v 0 []) (hn : came.length = n) (hr : Rd w C (came.map Value.string)) (hnil : C = none → n = 0 ∧ c = 0) (h1000 : n ≤ 1000) (hbase : base ≤ w.heap.size)
 (h : ∀ A' c' w', w'.ownsRow base 9 1 (.slice A' n c') n (came.map Value.string) → w.grownBy w' v.ownBlock → wpList Tryz.prog ops Q rest (a.put o.dst (.slice A' n c')) w') : wpList Tryz.prog ops Q (o :: rest) a w :=
 wpList_plain hgd fun _ hK => wp_app5 s x ho v hs C n c came hx base hown hn hr hnil h1000 hbase fun A' c' w' h2 h3 => hK _ _ (h A' c' w' h2 h3)

/-- what stays as it is while nothing below B turns -/
def KeepB (B : Nat) (P : World → Prop) : Prop := ∀ X Y, P X → Below B X Y → P Y
theorem keepB_and {B : Nat} {P Q : World → Prop} (hp : KeepB B P) (hq : KeepB B Q) : KeepB B (fun W => P W ∧ Q W) := fun X Y h hb => ⟨hp X Y h.1 hb, hq X Y h.2 hb⟩
theorem keepB_below {B : Nat} (w : World) (h : w.heap.size ≤ B) : KeepB B (fun W => Below w.heap.size w W) := fun _ _ hx hb => hx.trans (hb.mono h)
theorem keepB_bk {B g : Nat} (t : TypeId) (cs : Array Value) (h : g < B) : KeepB B (fun W => Bk W g t cs) := fun _ _ hx hb => hx.below hb h
theorem keepB_rd {W : World} {A : Option Addr} {xs : List Value} (h : Rd W A xs) : KeepB W.heap.size (fun X => Rd X A xs) := fun X Y hx hb => by
 by_cases hz : xs = []
 ·
  exact .inl hz
 ·
  have hpos : 0 < xs.length := List.length_pos_iff.2 hz
  obtain ⟨b, off, rfl, hc⟩ := h.at_ hpos
  have hlt : b < W.heap.size := World.block_lt_of_cell? W ⟨b, off + 0, none⟩ (u := xs[0]) (by rw [hc, List.getElem?_eq_getElem hpos])
  rcases hx with e | ⟨b', off', e, hx⟩
  ·
   exact absurd e hz
  ·
   injection e with e
   injection e with e1 e2
   subst e1; subst e2
   exact .inr ⟨b, off, rfl, fun k hk => by rw [hb.cell (p := ⟨b, off + k, none⟩) hlt]; exact hx k hk⟩
theorem pack5 {W : World} (Q : World → Prop) (hQ : Q W) (kQ : KeepB W.heap.size Q) : ∃ (P : World → Prop) (B : Nat), KeepB B P ∧ (∀ X, P X → B ≤ X.heap.size) ∧ P W ∧ B = W.heap.size ∧ Hid (∀ X, P X → Q X) :=
 ⟨fun X => Q X ∧ W.heap.size ≤ X.heap.size, W.heap.size, fun X Y h hb => ⟨kQ X Y h.1 hb, Nat.le_trans h.2 hb.size⟩, fun _ h => h.2, ⟨hQ, Nat.le_refl _⟩, rfl, fun _ h => h.1⟩
theorem own_form5 {W : World} {base n : Nat} {v : Value} {xs : List Value} (h : W.ownsRow base 9 1 v n xs) : ∃ A c, v = .slice A n c ∧ n ≤ c ∧ (c : Int) ≤ 9223372036854775807 ∧ (A = none → n = 0 ∧ c = 0) ∧ (∀ a, A = some a → ∃ g, a = ⟨g, 0, none⟩) ∧ Rd W A xs := by
 have hr : ∀ A c, v = .slice A n c → Rd W A xs := fun A c e => by
  obtain ⟨_, A', c', e', hr⟩ := SlK.of_own h
  rw [e] at e'
  injection e' with e1 e2 e3
  subst e1
  exact hr
 rcases h.2 with ⟨rfl, rfl⟩ | ⟨g, cap, cur, rfl, _, _, h1, h2, _⟩
 ·
  exact ⟨none, 0, rfl, Nat.le_refl _, by decide, fun _ => ⟨rfl, rfl⟩, fun a e => (by cases e), hr _ _ rfl⟩
 ·
  exact ⟨_, cap, rfl, h1, (by unfold maxLen at h2; omega), fun e => (by cases e), fun a e => ⟨g, (Option.some.inj e).symm⟩, hr _ _ rfl⟩
theorem rd_own5 {W : World} {base n c : Nat} {A : Option Addr} {xs : List Value} (h : W.ownsRow base 9 1 (.slice A n c) n xs) : Rd W A xs := by
 obtain ⟨_, A', c', e, hr⟩ := SlK.of_own h
 injection e with e1 e2 e3
 subst e1
 exact hr
theorem rd_take5 {W : World} {A : Option Addr} {xs : List Value} (j : Nat) (h : Rd W A xs) : Rd W A (xs.take j) := by
 rcases h with rfl | ⟨b, off, rfl, hc⟩
 ·
  exact .inl (by simp)
 ·
  refine .inr ⟨b, off, rfl, fun k hk => ?_⟩
  have hk2 : k < j ∧ k < xs.length := by rw [List.length_take] at hk; omega
  rw [hc k hk2.2, List.getElem?_take, if_pos hk2.1]
theorem rd_str5 {W : World} {g : Nat} {l : List Str} (h : Rd W (some ⟨g, 0, none⟩) (l.map .string)) {k : Nat} (hk : k < l.length) : W.cell? ⟨g, k, none⟩ = some (.string (l.getD k .empty)) := by
 obtain ⟨b, off, e, hc⟩ := h.str hk
 injection e with e
 injection e with e1 e2
 subst e1; subst e2
 rw [Nat.zero_add] at hc
 exact hc
theorem some_form5 {A : Option Addr} {n c j : Nat} (hnil : A = none → n = 0 ∧ c = 0) (hf : ∀ a, A = some a → ∃ g, a = ⟨g, 0, none⟩) (h : j < n) : ∃ g, A = some ⟨g, 0, none⟩ := by
 cases A with
 | none => exact absurd (hnil rfl).1 (by omega)
 | some a =>
  obtain ⟨g, rfl⟩ := hf a rfl
  exact ⟨g, rfl⟩
theorem news5 {W : World} {g : Nat} {s : Str} (h : Bk W g 9 #[.string s]) : ∀ k u, [Value.string s][k]? = some u → W.cell? ((⟨g, 0, none⟩ : Addr).add k) = some u := fun k u hu => by
 rw [Addr.add_mid, Nat.zero_add, h.cell]
 simpa using hu
theorem ownBelow5 {w w' : World} {base : Nat} {e : TypeId} {size n : Nat} {v : Value} {xs : List Value} (h : w.ownsRow base e size v n xs) (hb : Below w.heap.size w w') : w'.ownsRow base e size v n xs :=
 h.kept (show w.grownBy w' none from ⟨hb.os, hb.tape, hb.output, hb.size, fun i hi _ => hb.block i hi⟩) (by cases hv : v.ownBlock with | none => exact .inl rfl | some r => exact .inr (by simp))
/-- an append to a slice of one's own, seen from a world below -/
theorem grown5 {w W W' : World} {o : Obj} {r : Option Nat} (h : Below w.heap.size w W) (hg : (W.alloc o).grownBy W' r) (hr : ∀ q, r = some q → w.heap.size ≤ q) : Below w.heap.size w W' :=
 (bt_alloc h o).grown hg (by have := h.size; simp; omega) hr
theorem grownBk5 {W W' : World} {o : Obj} {r : Option Nat} {g : Nat} {t : TypeId} {cs : Array Value} (h : Bk W g t cs) (hg : (W.alloc o).grownBy W' r) (hr : ∀ q, r = some q → g ≠ q) : Bk W' g t cs :=
 (hg.block g (by have := h.lt; simp; omega) (fun e => hr g e.symm rfl)).trans (h.alloc o)
theorem ownOther5 {W W' : World} {o : Obj} {base n : Nat} {v u : Value} {xs : List Value} (h : W.ownsRow base 9 1 u n xs) (hg : (W.alloc o).grownBy W' v.ownBlock) (hd : ∀ r, v.ownBlock = some r → u.ownBlock ≠ some r) : W'.ownsRow base 9 1 u n xs :=
 (h.alloc o).kept hg (by cases hv : u.ownBlock with
  | none => exact .inl rfl
  | some r => exact .inr (fun e => hd r e.symm hv))
theorem below5 {B : Nat} {a W : World} {g : Nat} {x0 x1 x2 x3 : Value} (h : Below B a W) (hg : B ≤ g) : Below B a ((((W.setCell ⟨g, 0, none⟩ x0).setCell ⟨g, 1, none⟩ x1).setCell ⟨g, 2, none⟩ x2).setCell ⟨g, 3, none⟩ x3) :=
 (((h.setCell (p := ⟨g, 0, none⟩) hg _).setCell (p := ⟨g, 1, none⟩) hg _).setCell (p := ⟨g, 2, none⟩) hg _).setCell (p := ⟨g, 3, none⟩) hg _
theorem store5 {W : World} {g : Nat} {x0 x1 x2 x3 : Value} (h : Bk W g 29 #[.int .i64 0, .string { data := #[] }, .string { data := #[] }, .string { data := #[] }]) : Bk ((((W.setCell ⟨g, 0, none⟩ x0).setCell ⟨g, 1, none⟩ x1).setCell ⟨g, 2, none⟩ x2).setCell ⟨g, 3, none⟩ x3) g 29 #[x0, x1, x2, x3] :=
 (((h.set_ 0 x0).set_ 1 x1).set_ 2 x2).set_ 3 x3
theorem bkRange5 {W : World} {g : Nat} {ty : TypeId} {oc : List Value} (h : Bk W g ty oc.toArray) : W.rangeAt g 0 oc := fun j v hv => by
 rw [h.cell, List.getElem?_toArray, Nat.zero_add]; exact hv
theorem LU.oneCell5 (l : LU) : l.cells.toArray.all (·.oneCell') = true := all_oneCell_toArray (by
 intro v hv
 simp only [LU.cells, List.mem_append, List.mem_map] at hv
 rcases hv with ⟨_, _, rfl⟩ | ⟨_, _, rfl⟩ <;> rfl)
theorem s1 {α : Type u} {xs : List α} {i : Nat} {a : α} : xs.toArray.setIfInBounds i a = (xs.set i a).toArray := List.setIfInBounds_toArray xs i a
theorem s2 {α : Type u} {a b : α} {r : List α} : (a :: r).set 0 b = b :: r := rfl
theorem s3 {α : Type u} {a b : α} {r : List α} {i : Nat} : (a :: r).set (i + 1) b = a :: r.set i b := rfl
theorem cells5 {W : World} {g : Nat} (h : Bk W g 29 #[.int .i64 0, .string { data := #[] }, .string { data := #[] }, .string { data := #[] }]) : W.cell? ⟨g, 0, none⟩ = some (.int .i64 0) ∧ W.cell? ⟨g, 1, none⟩ = some (.string { data := #[] }) ∧ W.cell? ⟨g, 2, none⟩ = some (.string { data := #[] }) ∧ W.cell? ⟨g, 3, none⟩ = some (.string { data := #[] }) ∧
 W.frozen? ⟨g, 0, none⟩ = false ∧ W.frozen? ⟨g, 1, none⟩ = false ∧ W.frozen? ⟨g, 2, none⟩ = false ∧ W.frozen? ⟨g, 3, none⟩ = false :=
 ⟨by rw [h.cell]; rfl, by rw [h.cell]; rfl, by rw [h.cell]; rfl, by rw [h.cell]; rfl, h.frozen 0, h.frozen 1, h.frozen 2, h.frozen 3⟩
theorem tk5 {P : Program} {md : _} {ops : Array Oper} {Q : Exit → Act → World → Prop} {S : World → Prop} {i : Nat} {oi : Oper} {v : Value} {fuel : Nat} {listed : Array Bool} {a : Act} {w : World} (hi : ops[i]? = some oi)
 (hy : ∀ w, S w → (execOp a.eval oi).run P w = .ok (.value v) w) (hS : S w) (h : wpAnyH P md ops Q S fuel (listed.setIfInBounds i true) (a.put oi.dst v) w)
 (hs : Region.noSelect ops = true := by kernel_rfl) (hf : Region.free md ops listed i = true := by kernel_rfl) (hr : (Region.ready md ops listed).contains i = true := by kernel_rfl)
 (hw : Region.wanted oi (yielded ops a.tmps) = true := by kernel_rfl) (hQ : ∀ c a w, Q (.panic c) (a.put oi.dst v) w → Q (.panic c) a w := by exact fun _ _ _ h => h) : wpAnyH P md ops Q S (fuel + 1) listed a w :=
 wpAnyH_take hi hs hf hr hQ (Or.inl ⟨hw, hy⟩) hS h
theorem info25T : (Tryz.prog.info? 25).map (·.size) = some 18 := by kernel_rfl
theorem info33T : (Tryz.prog.info? 33).map (·.size) = some 18 := by kernel_rfl
/-- what the walk of LineupTurns needs of its lineup and of its callees -/
structure T5 (o : LU) (oc : List Value) (w : World) (i : Nat) : Prop where
 ho : o.ok
 i25 : (Tryz.prog.info? 25).map (·.size) = some oc.toArray.size
 i33 : (Tryz.prog.info? 33).map (·.size) = some oc.toArray.size
 l25 : (Tryz.prog.info? 25).map (·.size) = some oc.length
 l33 : (Tryz.prog.info? 33).map (·.size) = some oc.length
 s18 : oc.toArray.size = 18
 one : oc.toArray.all (·.oneCell') = true
 b9 : ∀ (W : World) (k : Nat), Bk W w.heap.size 25 oc.toArray → k < 9 → W.cell? ⟨w.heap.size, k, none⟩ = some (.string (o.b.getD k .empty))
 rg : ∀ X, Bk X w.heap.size 25 oc.toArray → ∀ j (hj : j < oc.length), X.cell? ⟨w.heap.size, 0 + j, none⟩ = some oc[j]
 h13 : ∀ W, Below w.heap.size w W → Calls Tryz.prog 13 #[] W fun x w' => x = .returned (.bool true) ∧ Below W.heap.size W w'
 h16 : ∀ W : World, Calls Tryz.prog 16 #[.agg oc.toArray] W fun x w' => x = .returned (.int .i64 0) ∧ Below W.heap.size W w'
 ht : ∀ l : List Str, (∀ s ∈ l, s ∈ o.b) → l.length ≤ 20 → Turned o i l
 htp : ∀ m, m ≤ 256 → deviateR o ((i : Int) + 1) (seqF o i m) = (Dev.zero, 7) ∧ improperR o ((i : Int) + 1) (seqF o i m) = ([], 0)
 hd : ∀ (lst : List Str) (m : Nat) (di : Int) (dp dc dx : Str) (e : Int), lst.length = m → m ≤ 1000000 → deviateR o ((i : Int) + 1) lst = (⟨di, dp, dc, dx⟩, e) → ∀ (W : World) (A' : Option Addr) (c' : Nat), Rd W A' (lst.map Value.string) → Calls Tryz.prog 14 #[.agg oc.toArray, .int .i64 (1 + (i : Int)), .slice A' m c'] W fun x w' => x = .returned (.tuple #[.agg #[.int .i64 di, .string dp, .string dc, .string dx], .int .i64 e]) ∧ Below W.heap.size W w'
 hi : ∀ (lst : List Str) (m : Nat) (L : List Int) (e : Int), lst.length = m → m ≤ 1000000 → improperR o ((i : Int) + 1) lst = (L, e) → ∀ (W : World) (A' : Option Addr) (c' : Nat), Rd W A' (lst.map Value.string) → Calls Tryz.prog 15 #[.agg oc.toArray, .int .i64 (1 + (i : Int)), .slice A' m c'] W fun x w' => (∃ v, x = .returned (.tuple #[v, .int .i64 e]) ∧ SlK 1 w' v L.length (L.map (.int .i64))) ∧ Below W.heap.size W w'
 h33 : ∀ (s : Str) (W : World), Calls Tryz.prog 33 #[.agg oc.toArray, .string s] W fun x w' => x = .returned (.int .i64 (idxF (fun y => decide (y = s)) o.b + 1)) ∧ Below W.heap.size W w'
theorem t5_of (o : LU) (ho : o.ok) (hsz : ∀ s ∈ o.b, s.size ≤ 9223372036854775807) (hck : checkLineup o = 0) (w : World) (haw : ∀ W, Below w.heap.size w W → Calls Tryz.prog 13 #[] W fun x w' => x = .returned (.bool true) ∧ Below W.heap.size W w') (i : Nat) (hi9 : i < 9) : T5 o o.cells w i where
 ho := ho
 i25 := by rw [LU.size18 o ho, info25T]
 i33 := by rw [LU.size18 o ho, info33T]
 l25 := by rw [info25T, ← LU.size18 o ho, List.size_toArray]
 l33 := by rw [info33T, ← LU.size18 o ho, List.size_toArray]
 s18 := LU.size18 o ho
 one := LU.oneCell5 o
 b9 := fun W k h hk => LU.cell_b ho h k hk
 rg := fun X h j hj => by rw [Nat.zero_add, h.cell, List.getElem?_toArray, List.getElem?_eq_getElem hj]
 h13 := haw
 h16 := fun W => by have := refLineup_any o ho _ rfl hsz W; rw [hck] at this; exact this
 ht := fun l h1 h2 => turned_of o ho hck i hi9 l h2 h1
 htp := fun m h => turns_proper o ho hck i m hi9 h
 hd := fun lst m di dp dc dx e hm hle hd W A' c' h => by
  have := deviate_any o ho _ rfl ((i : Int) + 1) lst A' m c' hm hle W h
  rw [hd, Int.add_comm (i : Int) 1] at this
  exact this
 hi := fun lst m L e hm hle hd W A' c' h => by
  have := improper_any o ho _ rfl ((i : Int) + 1) lst A' m c' hm hle W h
  rw [hd, Int.add_comm (i : Int) 1] at this
  exact this
 h33 := fun s W => refSlot_any o ho _ rfl s W
set_option maxHeartbeats 8000000 in
set_option maxRecDepth 100000 in
theorem turns_main (o : LU) (oc : List Value) (w : World) (i : Nat) (T : T5 o oc w i) (A : Array Value) (sl : Nat) (hi9 : i < 9) (hmod : (sl : Int).tmod 9 = (i : Int)) (hs0 : (0 : Int) ≤ (sl : Int)) (hs1 : (sl : Int) ≤ 255) (cm : List Int) (hcm : ∀ c ∈ cm, 0 ≤ c ∧ c ≤ 255) (C : Option Addr) (n c : Nat) (hn : cm.length = n) (a1 : ¬ (20 : Int) < (n : Int)) (hc : Rd w C (cm.map (.int .u8)))
 (hF : Below w.heap.size w (w.alloc (.cells A 25)) ∧ Bk (w.alloc (.cells A 25)) w.heap.size 25 oc.toArray) :
 Calls Tryz.prog 5 #[.agg A, .int .u8 sl, .slice C n c] w fun x w' => x = .returned (.bool true) ∧ Below w.heap.size w w' := by
 have F0 := Lib.hid hF; have Hn := Lib.hid hn; have Hc := Lib.hid hc; have Hcm := Lib.hid hcm
 have hz : ((0 : Int) != 0) = false := rfl
 clear hF hn hc hcm
 go_enter Tryz.func5, Tryz.ntmps5
 go_upto_region 1 with fail
 generalize (w.alloc (.cells A 25)) = W0 at F0 ⊢
 go_upto_region 2 with fail
 go_cut [47] from 32 (fun s47 wr => s47 = .bool false ∧ Below w.heap.size w wr ∧ Bk wr w.heap.size 25 oc.toArray)
 case first =>
  have b1 : decide ((20 : Int) < (n : Int)) = false := decide_eq_false a1
  as_aux_lemma =>
   go_wp2_with fail
   refine (T.h13 _ F0.out.1).mono ?_
   rintro e w1 ⟨rfl, hb1⟩
   have F1 : Hid (Below w.heap.size w w1 ∧ Bk w1 w.heap.size 25 oc.toArray) := ⟨bt_trans F0.out.1 hb1, F0.out.2.below hb1 F0.out.2.lt⟩
   go_wp2_with (first
    | (refine wpList_load_cells_g 25 _ rfl w.heap.size 0 rfl oc (fun j hj => by rw [List.getElem?_eq_getElem hj]; exact T.rg _ F1.out.2 j hj) _ Tryz.underlying25 rfl T.l25 rfl ?_)
    | (go_at_call 16; refine (T.h16 _).mono ?_; rintro e w2 ⟨rfl, hb2⟩))
   go_meet
   exact ⟨by simp, bt_trans F1.out.1 hb2, F1.out.2.below hb2 F1.out.2.lt⟩
 case rest =>
  obtain ⟨rfl, hb1, hbk1⟩ := hcut
  have F1 : Hid (Below w.heap.size w wc ∧ Bk wc w.heap.size 25 oc.toArray) := ⟨hb1, hbk1⟩
  clear hb1 hbk1 F0
  have hth := ((Bk.new wc 33 #[.string { data := #[] }, .string { data := #[] }, .string { data := #[] }, .string { data := #[] }, .string { data := #[] }, .string { data := #[] }, .string { data := #[] }, .string { data := #[] }, .string { data := #[] }, .int .i64 0, .int .i64 0, .int .i64 0, .int .i64 0, .int .i64 0, .int .i64 0, .int .i64 0, .int .i64 0, .int .i64 0]).there oc.toArray.size (by rw [T.s18]; decide))
  go_upto_region 5 with (first
   | (refine wpList_load_row rfl 25 _ rfl w.heap.size rfl 25 oc.toArray (0, 0) _ F1.out.2 Tryz.underlying25 rfl T.i25 ?_)
   | (refine wpList_store_mid rfl 33 (.tmp 8) (.tmp 49) rfl wc.heap.size 0 oc.toArray rfl rfl hth T.i33 T.one ?_))
  have hgl : w.heap.size < wc.heap.size := F1.out.2.lt
  have F2 : Hid (Below w.heap.size w ((wc.alloc (.cells #[.string { data := #[] }, .string { data := #[] }, .string { data := #[] }, .string { data := #[] }, .string { data := #[] }, .string { data := #[] }, .string { data := #[] }, .string { data := #[] }, .string { data := #[] }, .int .i64 0, .int .i64 0, .int .i64 0, .int .i64 0, .int .i64 0, .int .i64 0, .int .i64 0, .int .i64 0, .int .i64 0] 33)).setCells wc.heap.size 0 oc) ∧ Bk ((wc.alloc (.cells #[.string { data := #[] }, .string { data := #[] }, .string { data := #[] }, .string { data := #[] }, .string { data := #[] }, .string { data := #[] }, .string { data := #[] }, .string { data := #[] }, .string { data := #[] }, .int .i64 0, .int .i64 0, .int .i64 0, .int .i64 0, .int .i64 0, .int .i64 0, .int .i64 0, .int .i64 0, .int .i64 0] 33)).setCells wc.heap.size 0 oc) w.heap.size 25 oc.toArray ∧ Bk ((wc.alloc (.cells #[.string { data := #[] }, .string { data := #[] }, .string { data := #[] }, .string { data := #[] }, .string { data := #[] }, .string { data := #[] }, .string { data := #[] }, .string { data := #[] }, .string { data := #[] }, .int .i64 0, .int .i64 0, .int .i64 0, .int .i64 0, .int .i64 0, .int .i64 0, .int .i64 0, .int .i64 0, .int .i64 0] 33)).setCells wc.heap.size 0 oc) wc.heap.size 33 oc.toArray) := by
   refine ⟨below_sets (Nat.le_of_lt hgl) (bt_alloc F1.out.1 _) _ _, Bk.setsFar (by omega) _ _ (F1.out.2.alloc _), ?_⟩
   have := (Bk.new wc 33 #[.string { data := #[] }, .string { data := #[] }, .string { data := #[] }, .string { data := #[] }, .string { data := #[] }, .string { data := #[] }, .string { data := #[] }, .string { data := #[] }, .string { data := #[] }, .int .i64 0, .int .i64 0, .int .i64 0, .int .i64 0, .int .i64 0, .int .i64 0, .int .i64 0, .int .i64 0, .int .i64 0]).fill oc.toArray (by rw [T.s18]; rfl)
   simpa using this
  clear F1 hth
  generalize ((wc.alloc (.cells #[.string { data := #[] }, .string { data := #[] }, .string { data := #[] }, .string { data := #[] }, .string { data := #[] }, .string { data := #[] }, .string { data := #[] }, .string { data := #[] }, .string { data := #[] }, .int .i64 0, .int .i64 0, .int .i64 0, .int .i64 0, .int .i64 0, .int .i64 0, .int .i64 0, .int .i64 0, .int .i64 0] 33)).setCells wc.heap.size 0 oc) = X1 at F2 ⊢
  generalize wc.heap.size = gl at F2 hgl ⊢
  generalize hnm : cm.map (fun c => o.b.getD (c % 9).toNat .empty) = names
  have Hnm := Lib.hid hnm; clear hnm
  obtain ⟨i0, hi, hz0, hz1, hz2⟩ := info_parts infoS
  have hn20 : n ≤ 20 := by omega
  as_aux_lemma =>
   go_upto_region 7 with fail
   go_loopw [52, 9, 10] (fun iv v9 v10 wr => ∃ k : Nat, k ≤ n ∧ iv = .int .i64 k ∧ Below w.heap.size w wr ∧ Bk wr w.heap.size 25 oc.toArray ∧ Bk wr gl 33 oc.toArray ∧ wr.ownsRow (gl + 1) 9 1 v9 k ((names.take k).map .string) ∧ wr.ownsRow (gl + 1) 9 1 v10 k ((seqF o i k).map .string) ∧ (∀ r, v9.ownBlock = some r → v10.ownBlock ≠ some r)) (fun iv _ _ _ => n - (intOf iv).toNat)
   case atStart => exact ⟨0, Nat.zero_le _, rfl, F2.out.1, F2.out.2.1, F2.out.2.2, World.ownsRow_nil _ _ _ _, World.ownsRow_nil _ _ _ _, fun r e => by cases e⟩
   case round =>
    obtain ⟨k, hk, rfl, hb, hbk, hbl, hown9, hown10, hdis⟩ := hrel
    clear F2
    by_cases hkn : k < n
    ·
     obtain ⟨b, off, rfl, hc1⟩ := Hc.out.at_ (k := k) (by simpa [Hn.out] using hkn)
     have hkl : k < cm.length := by rw [Hn.out]; exact hkn
     have hc2 : w.cell? ⟨b, off + k, none⟩ = some (.int .u8 (cm.getD k 0)) := by rw [hc1]; simp [List.getD, List.getElem?_eq_getElem hkl]
     have hck8 := Hcm.out (cm.getD k 0) (by simp [List.getD, List.getElem?_eq_getElem hkl])
     have hb0 : b < w.heap.size := World.block_lt_of_cell? w ⟨b, off + k, none⟩ hc2
     have hcell : wr.cell? ⟨b, off + k, none⟩ = some (.int .u8 (cm.getD k 0)) := (hb.cell (p := ⟨b, off + k, none⟩) hb0).trans hc2
     have htk : names.take (k + 1) = names.take k ++ [o.b.getD (cm.getD k 0 % 9).toNat .empty] := by
      have hkn' : k < names.length := by rw [← Hnm.out, List.length_map]; exact hkl
      rw [List.take_succ_eq_append_getElem hkn']
      congr 2
      simp [← Hnm.out, List.getD, List.getElem?_eq_getElem hkl]
     generalize cm.getD k 0 = ck at hck8 hcell htk
     obtain ⟨hk0, hk255⟩ := hck8
     obtain ⟨m, hm9, hmm, hmod2⟩ : ∃ m : Nat, m < 9 ∧ (ck % 9).toNat = m ∧ ck.tmod 9 = (m : Int) := ⟨(ck % 9).toNat, by omega, rfl, by rw [Int.tmod_eq_emod_of_nonneg hk0]; omega⟩
     rw [hmm] at htk
     obtain ⟨p, hp9, hpp, hmod3⟩ : ∃ p : Nat, p < 9 ∧ (i + k) % 9 = p ∧ ((i : Int) + (k : Int)).tmod 9 = (p : Int) := ⟨(i + k) % 9, by omega, rfl, by rw [Int.tmod_eq_emod_of_nonneg (by omega)]; omega⟩
     have hsq := seqF_succ o i k
     rw [hpp] at hsq
     have Hcm' : Hid (∀ W, Bk W w.heap.size 25 oc.toArray → W.cell? ⟨w.heap.size, m, none⟩ = some (.string (o.b.getD m .empty))) := fun W h => T.b9 W m h hm9
     have Hcp' : Hid (∀ W, Bk W w.heap.size 25 oc.toArray → W.cell? ⟨w.heap.size, p, none⟩ = some (.string (o.b.getD p .empty))) := fun W h => T.b9 W p h hp9
     generalize o.b.getD m .empty = s1 at htk Hcm'
     generalize o.b.getD p .empty = s2 at hsq Hcp'
     have Htk := Lib.hid htk; have Hsq := Lib.hid hsq
     clear hc1 hc2 htk hsq hmm hpp hkl
     have q0 : (0 : Int) ≤ (k : Int) := by omega
     have q1 : (k : Int) < (n : Int) := by omega
     have m0 : (0 : Int) ≤ (m : Int) := by omega
     have m9 : (m : Int) < 9 := by omega
     have p0 : (0 : Int) ≤ (p : Int) := by omega
     have p9 : (p : Int) < 9 := by omega
     have w1 : IntKind.i64.wrap (1 + (i : Int) - 1) = (i : Int) := by rw [IntWalk.i64_in _ (by omega)]; omega
     have w2 : IntKind.i64.wrap ((i : Int) + (k : Int)) = (i : Int) + (k : Int) := IntWalk.i64_in _ (by omega)
     have hcs := cell_one_new wr (.string s1) 9
     have x1 := Hcm'.out _ hbk
     have hwlt := hbk.lt; have hglt := hbl.lt
     as_aux_lemma =>
      go_upto_region 10 with (at_builtin; refine wpList_append_lies _ rfl _ _ 26 rfl (gl + 1) 9 i0 (.string { data := #[] }) 1 16 Tryz.underlying26 hi hz0 hz1 hz2 rfl (by decide) _ _ _ rfl (hown9.alloc _) ⟨wr.heap.size, 0, none⟩ 1 1 [.string s1] rfl rfl hcs (strs_oneCell [s1]) (by decide) (by unfold maxLen; omega) (by omega) (by simp; omega) _ rfl ?_; intro g cap w5 hown9' hgrow hat hlt5)
      have hn9 : ∀ r, u9.ownBlock = some r → gl + 1 ≤ r ∧ r < wr.heap.size := fun r e => hown9.lt r e
      have hn10 : ∀ r, u10.ownBlock = some r → gl + 1 ≤ r ∧ r < wr.heap.size := fun r e => hown10.lt r e
      have hdis' : ∀ r, (Value.slice (some ⟨g, 0, none⟩) (k + 1) cap).ownBlock = some r → u10.ownBlock ≠ some r := fun r e h => by
       have er : g = r := by simpa [Value.ownBlock] using e
       subst er
       rcases hat with h1 | h1
       ·
        exact hdis _ h1 h
       ·
        have := hn10 _ h; simp at h1; omega
      have F5 : Hid (Below w.heap.size w w5 ∧ Bk w5 w.heap.size 25 oc.toArray ∧ Bk w5 gl 33 oc.toArray ∧ w5.ownsRow (gl + 1) 9 1 (.slice (some ⟨g, 0, none⟩) (k + 1) cap) (k + 1) ((names.take (k + 1)).map .string) ∧ w5.ownsRow (gl + 1) 9 1 u10 k ((seqF o i k).map .string)) :=
       ⟨grown5 hb hgrow (fun r e => by have := hn9 r e; omega), grownBk5 hbk hgrow (fun r e => by have := hn9 r e; omega), grownBk5 hbl hgrow (fun r e => by have := hn9 r e; omega), by rw [Htk.out, List.map_append]; exact hown9', ownOther5 hown10 hgrow hdis⟩
      have hdis5 := fun r (h1 : u10.ownBlock = some r) (h2 : (Value.slice (some ⟨g, 0, none⟩) (k + 1) cap).ownBlock = some r) => hdis' r h2 h1
      have hn9' : ∀ r, (Value.slice (some ⟨g, 0, none⟩) (k + 1) cap).ownBlock = some r → r < w5.heap.size := fun r e => (F5.out.2.2.2.1.lt r e).2
      have Hdis5 := Lib.hid hdis5; have Hn9' := Lib.hid hn9'
      have hn10' : ∀ r, u10.ownBlock = some r → gl + 1 ≤ r := fun r e => (F5.out.2.2.2.2.lt r e).1
      clear hb hbk hbl hown9 hown10 hdis hown9' hgrow hat hcs x1 hn9 hn10 hdis' hdis5 hn9' hwlt hglt hcell
      have hcs := cell_one_new w5 (.string s2) 9
      have x2 := Hcp'.out _ F5.out.2.1
      have hwlt := F5.out.2.1.lt; have hglt := F5.out.2.2.1.lt
      go_upto_region 11 with (at_builtin; refine wpList_append_lies _ rfl _ _ 26 rfl (gl + 1) 9 i0 (.string { data := #[] }) 1 16 Tryz.underlying26 hi hz0 hz1 hz2 rfl (by decide) _ _ _ rfl (F5.out.2.2.2.2.alloc _) ⟨w5.heap.size, 0, none⟩ 1 1 [.string s2] rfl rfl hcs (strs_oneCell [s2]) (by decide) (by unfold maxLen; omega) (by omega) (by simp; omega) _ rfl ?_; intro g2 cap2 w6 hown10' hgrow hat2 hlt6)
      have F6 : Hid (Below w.heap.size w w6 ∧ Bk w6 w.heap.size 25 oc.toArray ∧ Bk w6 gl 33 oc.toArray ∧ w6.ownsRow (gl + 1) 9 1 (.slice (some ⟨g, 0, none⟩) (k + 1) cap) (k + 1) ((names.take (k + 1)).map .string) ∧ w6.ownsRow (gl + 1) 9 1 (.slice (some ⟨g2, 0, none⟩) (k + 1) cap2) (k + 1) ((seqF o i (k + 1)).map .string) ∧ ∀ r, (Value.slice (some ⟨g, 0, none⟩) (k + 1) cap).ownBlock = some r → (Value.slice (some ⟨g2, 0, none⟩) (k + 1) cap2).ownBlock ≠ some r) :=
       ⟨grown5 F5.out.1 hgrow (fun r e => by have := hn10' r e; omega), grownBk5 F5.out.2.1 hgrow (fun r e => by have := hn10' r e; omega), grownBk5 F5.out.2.2.1 hgrow (fun r e => by have := hn10' r e; omega), ownOther5 F5.out.2.2.2.1 hgrow Hdis5.out, by rw [Hsq.out, List.map_append]; exact hown10', fun r e h => by
        have er : g2 = r := by simpa [Value.ownBlock] using h
        subst er
        rcases hat2 with h1 | h1
        ·
         exact Hdis5.out _ h1 e
        ·
         have := Hn9'.out _ e; simp at h1; omega⟩
      clear F5 hown10' hgrow hat2 hcs x2 Hdis5 Hn9' hn10' hwlt hglt
      go_wp2
      go_roundw
      case rel => exact ⟨k + 1, by omega, by go_num, F6.out⟩
      case measure => simp [intOf]; omega
    ·
     obtain rfl : n = k := by omega
     have hnl : names.length = n := by rw [← Hnm.out, List.length_map]; exact Hn.out
     have htn : names.take n = names := List.take_of_length_le (by omega)
     rw [htn] at hown9
     have hmem : ∀ s ∈ names, s ∈ o.b := fun s hs => by
      rw [← Hnm.out] at hs
      obtain ⟨x, hx, rfl⟩ := List.mem_map.1 hs
      have hx8 := Hcm.out x hx
      have hlt : (x % 9).toNat < o.b.length := by rw [T.ho.1]; omega
      simp [List.getD, List.getElem?_eq_getElem hlt]
     have hT := T.ht names hmem (by omega)
     have hTP := T.htp n (by omega)
     obtain ⟨A9, c9, rfl, hc9, hm9, hnil9, hform9, hr9⟩ := own_form5 hown9
     obtain ⟨A10, c10, rfl, hc10, hm10, hnil10, hform10, hr10⟩ := own_form5 hown10
     obtain ⟨P, B, kP, hPB, hP, hBw, oP⟩ := pack5 (W := wr) (fun X => Below w.heap.size w X ∧ Bk X w.heap.size 25 oc.toArray ∧ Bk X gl 33 oc.toArray ∧ Rd X A9 (names.map .string) ∧ Rd X A10 ((seqF o i n).map .string)) ⟨hb, hbk, hbl, hr9, hr10⟩ (keepB_and (keepB_below w hb.size) (keepB_and (keepB_bk _ _ hbk.lt) (keepB_and (keepB_bk _ _ hbl.lt) (keepB_and (keepB_rd hr9) (keepB_rd hr10)))))
     have kK : Keep P := fun X Y h hb => kP X Y h (hb.mono (hPB X h))
     have hglB : gl < B := by rw [hBw]; exact hbl.lt
     have HR : Hid (∀ X, P X → X.rangeAt gl 0 oc) := fun X h => bkRange5 (oP.out X h).2.2.1
     have Hnl := Lib.hid hnl; have HT1 := Lib.hid hT; have HTP1 := Lib.hid hTP; have Hmem := Lib.hid hmem
     have Hsl := Lib.hid (seqF_len o i n)
     have Hform9 := Lib.hid hform9; have Hform10 := Lib.hid hform10; have Hnil9 := Lib.hid hnil9; have Hnil10 := Lib.hid hnil10
     clear hb hbk hbl hown9 hown10 hdis hr9 hr10 hform9 hform10 hnil9 hnil10 hmem hT hTP htn hnl Hc hBw hk
     as_aux_lemma =>
      go_upto_region 12 with fail
      obtain ⟨zi, zp, zc, zx, hzz⟩ : ∃ zi zp zc zx, Dev.zero = (⟨zi, zp, zc, zx⟩ : Dev) := ⟨_, _, _, _, rfl⟩
      have H12 := Lib.hid (T.hd (seqF o i n) n zi zp zc zx 7 Hsl.out (by omega) (by rw [← hzz]; exact HTP1.out.1))
      have H13 := Lib.hid (T.hi (seqF o i n) n [] 0 Hsl.out (by omega) HTP1.out.2)
      go_cut [13, 14] from 32 (fun s13 s14 wr => s14 = .int .i64 7 ∧ P wr ∧ ∃ g, s13 = .pointer (some ⟨g, 0, none⟩) ∧ Bk wr g 29 #[.int .i64 zi, .string zp, .string zc, .string zx])
      case first =>
       as_aux_lemma =>
        have hP0 : P wr.drew := kK _ _ hP (bt_drew (Below.refl _ wr))
        have hPE : P (wr.alloc (.cells #[] 9)).drew := kK _ _ hP (bt_drew (bt_new wr (.cells #[] 9)))
        have hPDq : P (wr.alloc (.cells #[.int .i64 0, .string { data := #[] }, .string { data := #[] }, .string { data := #[] }] 29)).drew := kK _ _ hP (bt_drew (bt_new wr _))
        have hPED : P ((wr.alloc (.cells #[] 9)).alloc (.cells #[.int .i64 0, .string { data := #[] }, .string { data := #[] }, .string { data := #[] }] 29)).drew := kK _ _ hP (bt_drew (bt_alloc (bt_new wr _) _))
        have hownE : (wr.alloc (.cells #[] 9)).drew.ownsRow wr.heap.size 9 1 (.slice (some ⟨wr.heap.size, 0, none⟩) 0 0) 0 [] := World.ownsRow_made wr #[] 0 (Nat.le_refl _) (Nat.zero_le _) rfl
        have hownED : ((wr.alloc (.cells #[] 9)).alloc (.cells #[.int .i64 0, .string { data := #[] }, .string { data := #[] }, .string { data := #[] }] 29)).drew.ownsRow wr.heap.size 9 1 (.slice (some ⟨wr.heap.size, 0, none⟩) 0 0) 0 [] := World.ownsRow.alloc (World.ownsRow_made wr #[] 0 (Nat.le_refl _) (Nat.zero_le _) rfl) _
        have hwl : B ≤ wr.heap.size := hPB _ hP
        refine wp_region_held_drew (S := P) (by kernel_rfl) (hP0) (fun hHeld => ?_)
        refine' wpAnyH_take (i := 0) (oi := { dst := some 78, op := Op.load 33 (Operand.tmp 8), type := 33, pos := "law.go:414", after := #[], guard := none }) (v := _) rfl (by kernel_rfl) (by kernel_rfl) (by kernel_rfl) (fun _ _ _ h => h) (yieldsIf_load_mid (by kernel_rfl) _ _ rfl _ _ rfl (oc) _ (fun W h => HR.out W h) Tryz.underlying33 rfl (T.l33)) (by assumption) ?rest1
        try simp only [Act.put, s1, s2, s3]
        refine' tk5 (i := 1) (oi := { dst := some 79, op := Op.move (Operand.tmp 7), type := 3, pos := "law.go:414", after := #[], guard := none }) rfl ?hy2 (by assumption) ?rest2
        case hy2 => (intro W hSW; (try dsimp only at hSW); go_simp; with_reducible rfl)
        try simp only [Act.put, s1, s2, s3]
        refine' tk5 (i := 3) (oi := { dst := some 81, op := Op.move (Operand.tmp 10), type := 26, pos := "law.go:414", after := #[], guard := none }) rfl ?hy3 (by assumption) ?rest3
        case hy3 => (intro W hSW; (try dsimp only at hSW); go_simp; with_reducible rfl)
        try simp only [Act.put, s1, s2, s3]
        refine wpAnyH_ready (rs := [2, 9]) (by kernel_rfl) (by simp) ?_
        refine AllReadyH.cons (o := { dst := some 80, op := Op.buildSlice 26 0 #[], type := 26, pos := "law.go:414", after := #[], guard := none }) rfl (fun K hK => ?_) (AllReadyH.cons (o := { dst := some 13, op := Op.alloc 29, type := 0, pos := "law.go:414", after := #[], guard := none }) rfl (fun K hK => ?_) AllReadyH.nil)
        ·
         go_simp
         refine hK.out _ _ hPE (fun hHeld => ?_)
         clear hK K hHeld
         try simp only [Act.put, s1, s2, s3]
         refine wpAnyH_ready (rs := [4, 9]) (by kernel_rfl) (by simp) ?_
         refine AllReadyH.cons (o := { dst := some 82, op := Op.call { callee := Callee.builtin Builtin.append, args := #[Operand.tmp 80, Operand.tmp 81], argTypes := #[26, 26] }, type := 26, pos := "law.go:414", after := #[{ on := 2, ground := Ground.data }, { on := 3, ground := Ground.data }], guard := none }) rfl (fun K hK => ?_) (AllReadyH.cons (o := { dst := some 13, op := Op.alloc 29, type := 0, pos := "law.go:414", after := #[], guard := none }) rfl (fun K hK => ?_) AllReadyH.nil)
         ·
          refine step_app5 rfl _ _ rfl _ rfl A10 n c10 (seqF o i n) rfl wr.heap.size hownE Hsl.out ((fun X h => (oP.out X h).2.2.2.2) _ hPE) Hnil10.out (by omega) (by simp) ?_
          intro A5 c5 w5 ho5 hg5
          have hr5 := rd_own5 ho5
          have hbl5 : Below wr.heap.size wr w5 := (bt_drew (bt_new wr (.cells #[] 9))).grown hg5 (by simp) (fun q e => by have h9 := Option.some.inj (show some wr.heap.size = some q from e); omega)
          have hP5 := kK _ _ hP hbl5
          refine hK.out _ _ hP5 (fun hHeld => ?_)
          clear hK K hHeld hbl5 hg5 ho5
          try simp only [Act.put, s1, s2, s3]
          refine wpAnyH_ready (rs := [5, 9]) (by kernel_rfl) (by simp) ?_
          refine AllReadyH.cons (o := { dst := some 83, op := Op.call { callee := Callee.value (Operand.func 14), args := #[Operand.tmp 78, Operand.tmp 79, Operand.tmp 82], argTypes := #[33, 3, 26] }, type := 31, pos := "law.go:414", after := #[{ on := 0, ground := Ground.data }, { on := 1, ground := Ground.data }, { on := 4, ground := Ground.data }, { on := 4, ground := Ground.chain }], guard := none }) rfl (fun K hK => ?_) (AllReadyH.cons (o := { dst := some 13, op := Op.alloc 29, type := 0, pos := "law.go:414", after := #[], guard := none }) rfl (fun K hK => ?_) AllReadyH.nil)
          ·
           go_simp
           go_at_call 14
           refine (H12.out _ _ _ hr5).mono ?_
           rintro e w6 ⟨rfl, hb⟩
           go_wp2_with fail
           refine hK.out _ _ (kK _ _ hP5 hb) (fun hHeld => ?_)
           clear hK K hHeld
           try simp only [Act.put, s1, s2, s3]
           have hP6 := kK _ _ hP5 hb
           clear hb hr5 hP5
           have hHeld := hP6
           refine' tk5 (i := 6) (oi := { dst := some 77, op := Op.move (Operand.tmp 83), type := 31, pos := "law.go:414", after := #[{ on := 5, ground := Ground.data }], guard := none }) rfl ?hy4 (by assumption) ?rest4
           case hy4 => (intro W hSW; (try dsimp only at hSW); go_simp; with_reducible rfl)
           try simp only [Act.put, s1, s2, s3]
           refine' tk5 (i := 7) (oi := { dst := some 84, op := Op.extract (Operand.tmp 77) 0, type := 29, pos := "law.go:414", after := #[{ on := 6, ground := Ground.data }], guard := none }) rfl ?hy5 (by assumption) ?rest5
           case hy5 => (intro W hSW; (try dsimp only at hSW); go_simp; with_reducible rfl)
           try simp only [Act.put, s1, s2, s3]
           refine' tk5 (i := 8) (oi := { dst := some 85, op := Op.extract (Operand.tmp 77) 1, type := 30, pos := "law.go:414", after := #[{ on := 6, ground := Ground.data }, { on := 10, ground := Ground.gcOnly Departure.lateStores }], guard := none }) rfl ?hy6 (by assumption) ?rest6
           case hy6 => (intro W hSW; (try dsimp only at hSW); go_simp; with_reducible rfl)
           try simp only [Act.put, s1, s2, s3]
           clear hHeld
           refine wpAnyH_ready (rs := [9]) (by kernel_rfl) (by simp) ?_
           refine AllReadyH.cons (o := { dst := some 13, op := Op.alloc 29, type := 0, pos := "law.go:414", after := #[], guard := none }) rfl (fun K hK => ?_) AllReadyH.nil
           go_simp
           refine hK.out _ _ ((kK _ _ hP6 (bt_new _ _))) (fun hHeld => ?_)
           clear hK K
           try simp only [Act.put, s1, s2, s3]
           clear hHeld
           have hPD := kK _ _ hP6 (bt_new w6 (.cells #[.int .i64 0, .string { data := #[] }, .string { data := #[] }, .string { data := #[] }] 29))
           have hbD := Bk.new w6 29 #[.int .i64 0, .string { data := #[] }, .string { data := #[] }, .string { data := #[] }]
           have hgw : B ≤ w6.heap.size := hPB _ hP6
           generalize (w6.alloc (.cells #[.int .i64 0, .string { data := #[] }, .string { data := #[] }, .string { data := #[] }] 29)) = WD at hPD hbD ⊢
           generalize w6.heap.size = gD at hbD hgw ⊢
           clear hP6
           have hHeld := hPD
           obtain ⟨z0, z1, z2, z3, f0, f1, f2, f3⟩ := cells5 hbD
           have hgl2 := hbD.lt
           have hPS : P ((((WD.setCell ⟨gD, 0, none⟩ (.int .i64 zi)).setCell ⟨gD, 1, none⟩ (.string zp)).setCell ⟨gD, 2, none⟩ (.string zc)).setCell ⟨gD, 3, none⟩ (.string zx)) := kP _ _ hPD (below5 (Below.refl _ _) hgw)
           have hbS := store5 (x0 := .int .i64 zi) (x1 := .string zp) (x2 := .string zc) (x3 := .string zx) hbD
           refine wpAnyH_ready (rs := [10]) (by kernel_rfl) (by simp) ?_
           refine AllReadyH.cons (o := { dst := none, op := Op.store 29 (Operand.tmp 13) (Operand.tmp 84), type := 0, pos := "law.go:414", after := #[{ on := 9, ground := Ground.data }, { on := 7, ground := Ground.data }, { on := 5, ground := Ground.chain }, { on := 0, ground := Ground.phase }, { on := 1, ground := Ground.phase }, { on := 2, ground := Ground.phase }, { on := 3, ground := Ground.phase }, { on := 4, ground := Ground.phase }, { on := 5, ground := Ground.phase }, { on := 6, ground := Ground.phase }, { on := 7, ground := Ground.phase }, { on := 8, ground := Ground.textOnly Departure.lateStores }, { on := 9, ground := Ground.phase }], guard := none }) rfl (fun K hK => ?_) AllReadyH.nil
           go_simp
           refine hK.out _ _ (hPS) (fun hHeld => ?_)
           clear hK K
           try simp only [Act.put, s1, s2, s3]
           clear hHeld
           refine wpAnyH_ready (rs := [11]) (by kernel_rfl) (by simp) ?_
           refine AllReadyH.cons (o := { dst := some 14, op := Op.assign (Operand.tmp 85), type := 30, pos := "law.go:414", after := #[{ on := 8, ground := Ground.data }, { on := 10, ground := Ground.chain }, { on := 0, ground := Ground.phase }, { on := 1, ground := Ground.phase }, { on := 2, ground := Ground.phase }, { on := 3, ground := Ground.phase }, { on := 4, ground := Ground.phase }, { on := 5, ground := Ground.phase }, { on := 6, ground := Ground.phase }, { on := 7, ground := Ground.phase }, { on := 8, ground := Ground.phase }, { on := 9, ground := Ground.phase }, { on := 10, ground := Ground.phase }], guard := none }) rfl (fun K hK => ?_) AllReadyH.nil
           go_simp
           refine hK.out _ _ (hPS) (fun hHeld => ?_)
           clear hK K
           try simp only [Act.put, s1, s2, s3]
           clear hHeld
           refine wpAnyH_done (by kernel_rfl) ?_ _
           clear z0 z1 z2 z3 f0 f1 f2 f3 hgl2 hPD hbD
           generalize ((((WD.setCell ⟨gD, 0, none⟩ (.int .i64 zi)).setCell ⟨gD, 1, none⟩ (.string zp)).setCell ⟨gD, 2, none⟩ (.string zc)).setCell ⟨gD, 3, none⟩ (.string zx)) = WS at hPS hbS ⊢
           go_wp2_with fail
           go_meet
           exact ⟨rfl, hPS, gD, rfl, hbS⟩
          ·
           go_simp
           refine hK.out _ _ (kK _ _ hP5 (bt_new _ _)) (fun hHeld => ?_)
           clear hK K hHeld
           try simp only [Act.put, s1, s2, s3]
           have hPD5 := kK _ _ hP5 (bt_new w5 (.cells #[.int .i64 0, .string { data := #[] }, .string { data := #[] }, .string { data := #[] }] 29))
           have hbD5 := Bk.new w5 29 #[.int .i64 0, .string { data := #[] }, .string { data := #[] }, .string { data := #[] }]
           have hgw : B ≤ w5.heap.size := hPB _ hP5
           have hr5' := hr5.below (bt_new w5 (.cells #[.int .i64 0, .string { data := #[] }, .string { data := #[] }, .string { data := #[] }] 29))
           generalize (w5.alloc (.cells #[.int .i64 0, .string { data := #[] }, .string { data := #[] }, .string { data := #[] }] 29)) = WE at hPD5 hbD5 hr5' ⊢
           generalize w5.heap.size = gD at hbD5 hgw ⊢
           clear hP5 hr5
           refine wpAnyH_ready (rs := [5]) (by kernel_rfl) (by simp) ?_
           refine AllReadyH.cons (o := { dst := some 83, op := Op.call { callee := Callee.value (Operand.func 14), args := #[Operand.tmp 78, Operand.tmp 79, Operand.tmp 82], argTypes := #[33, 3, 26] }, type := 31, pos := "law.go:414", after := #[{ on := 0, ground := Ground.data }, { on := 1, ground := Ground.data }, { on := 4, ground := Ground.data }, { on := 4, ground := Ground.chain }], guard := none }) rfl (fun K hK => ?_) AllReadyH.nil
           go_simp
           go_at_call 14
           refine (H12.out _ _ _ hr5').mono ?_
           rintro e w6 ⟨rfl, hb⟩
           go_wp2_with fail
           refine hK.out _ _ (kK _ _ hPD5 hb) (fun hHeld => ?_)
           clear hK K hHeld
           try simp only [Act.put, s1, s2, s3]
           have hPD := kK _ _ hPD5 hb
           have hbD := hbD5.below hb hbD5.lt
           clear hb hr5' hPD5 hbD5
           generalize w6 = WD at hPD hbD ⊢
           have hHeld := hPD
           refine' tk5 (i := 6) (oi := { dst := some 77, op := Op.move (Operand.tmp 83), type := 31, pos := "law.go:414", after := #[{ on := 5, ground := Ground.data }], guard := none }) rfl ?hy7 (by assumption) ?rest7
           case hy7 => (intro W hSW; (try dsimp only at hSW); go_simp; with_reducible rfl)
           try simp only [Act.put, s1, s2, s3]
           refine' tk5 (i := 7) (oi := { dst := some 84, op := Op.extract (Operand.tmp 77) 0, type := 29, pos := "law.go:414", after := #[{ on := 6, ground := Ground.data }], guard := none }) rfl ?hy8 (by assumption) ?rest8
           case hy8 => (intro W hSW; (try dsimp only at hSW); go_simp; with_reducible rfl)
           try simp only [Act.put, s1, s2, s3]
           refine' tk5 (i := 8) (oi := { dst := some 85, op := Op.extract (Operand.tmp 77) 1, type := 30, pos := "law.go:414", after := #[{ on := 6, ground := Ground.data }, { on := 10, ground := Ground.gcOnly Departure.lateStores }], guard := none }) rfl ?hy9 (by assumption) ?rest9
           case hy9 => (intro W hSW; (try dsimp only at hSW); go_simp; with_reducible rfl)
           try simp only [Act.put, s1, s2, s3]
           obtain ⟨z0, z1, z2, z3, f0, f1, f2, f3⟩ := cells5 hbD
           have hgl2 := hbD.lt
           have hPS : P ((((WD.setCell ⟨gD, 0, none⟩ (.int .i64 zi)).setCell ⟨gD, 1, none⟩ (.string zp)).setCell ⟨gD, 2, none⟩ (.string zc)).setCell ⟨gD, 3, none⟩ (.string zx)) := kP _ _ hPD (below5 (Below.refl _ _) hgw)
           have hbS := store5 (x0 := .int .i64 zi) (x1 := .string zp) (x2 := .string zc) (x3 := .string zx) hbD
           refine wpAnyH_ready (rs := [10]) (by kernel_rfl) (by simp) ?_
           refine AllReadyH.cons (o := { dst := none, op := Op.store 29 (Operand.tmp 13) (Operand.tmp 84), type := 0, pos := "law.go:414", after := #[{ on := 9, ground := Ground.data }, { on := 7, ground := Ground.data }, { on := 5, ground := Ground.chain }, { on := 0, ground := Ground.phase }, { on := 1, ground := Ground.phase }, { on := 2, ground := Ground.phase }, { on := 3, ground := Ground.phase }, { on := 4, ground := Ground.phase }, { on := 5, ground := Ground.phase }, { on := 6, ground := Ground.phase }, { on := 7, ground := Ground.phase }, { on := 8, ground := Ground.textOnly Departure.lateStores }, { on := 9, ground := Ground.phase }], guard := none }) rfl (fun K hK => ?_) AllReadyH.nil
           go_simp
           refine hK.out _ _ (hPS) (fun hHeld => ?_)
           clear hK K
           try simp only [Act.put, s1, s2, s3]
           clear hHeld
           refine wpAnyH_ready (rs := [11]) (by kernel_rfl) (by simp) ?_
           refine AllReadyH.cons (o := { dst := some 14, op := Op.assign (Operand.tmp 85), type := 30, pos := "law.go:414", after := #[{ on := 8, ground := Ground.data }, { on := 10, ground := Ground.chain }, { on := 0, ground := Ground.phase }, { on := 1, ground := Ground.phase }, { on := 2, ground := Ground.phase }, { on := 3, ground := Ground.phase }, { on := 4, ground := Ground.phase }, { on := 5, ground := Ground.phase }, { on := 6, ground := Ground.phase }, { on := 7, ground := Ground.phase }, { on := 8, ground := Ground.phase }, { on := 9, ground := Ground.phase }, { on := 10, ground := Ground.phase }], guard := none }) rfl (fun K hK => ?_) AllReadyH.nil
           go_simp
           refine hK.out _ _ (hPS) (fun hHeld => ?_)
           clear hK K
           try simp only [Act.put, s1, s2, s3]
           clear hHeld
           refine wpAnyH_done (by kernel_rfl) ?_ _
           clear z0 z1 z2 z3 f0 f1 f2 f3 hgl2 hPD hbD
           generalize ((((WD.setCell ⟨gD, 0, none⟩ (.int .i64 zi)).setCell ⟨gD, 1, none⟩ (.string zp)).setCell ⟨gD, 2, none⟩ (.string zc)).setCell ⟨gD, 3, none⟩ (.string zx)) = WS at hPS hbS ⊢
           go_wp2_with fail
           go_meet
           exact ⟨rfl, hPS, gD, rfl, hbS⟩
         ·
          go_simp
          refine hK.out _ _ hPED (fun hHeld => ?_)
          clear hK K hHeld
          try simp only [Act.put, s1, s2, s3]
          have hbE : Bk ((wr.alloc (.cells #[] 9)).alloc (.cells #[.int .i64 0, .string { data := #[] }, .string { data := #[] }, .string { data := #[] }] 29)).drew (wr.heap.size + 1) 29 #[.int .i64 0, .string { data := #[] }, .string { data := #[] }, .string { data := #[] }] := by
           have := Bk.new (wr.alloc (.cells #[] 9)) 29 #[.int .i64 0, .string { data := #[] }, .string { data := #[] }, .string { data := #[] }]
           rw [World.size_alloc] at this
           exact this
          have hgw : B ≤ wr.heap.size + 1 := by omega
          refine wpAnyH_ready (rs := [4]) (by kernel_rfl) (by simp) ?_
          refine AllReadyH.cons (o := { dst := some 82, op := Op.call { callee := Callee.builtin Builtin.append, args := #[Operand.tmp 80, Operand.tmp 81], argTypes := #[26, 26] }, type := 26, pos := "law.go:414", after := #[{ on := 2, ground := Ground.data }, { on := 3, ground := Ground.data }], guard := none }) rfl (fun K hK => ?_) AllReadyH.nil
          refine step_app5 rfl _ _ rfl _ rfl A10 n c10 (seqF o i n) rfl wr.heap.size hownED Hsl.out ((fun X h => (oP.out X h).2.2.2.2) _ hPED) Hnil10.out (by omega) (by simp; omega) ?_
          intro A5 c5 w5 ho5 hg5
          have hr5 := rd_own5 ho5
          have hbl5 : Below wr.heap.size wr w5 := (bt_drew (bt_alloc (bt_new wr (.cells #[] 9)) (.cells #[.int .i64 0, .string { data := #[] }, .string { data := #[] }, .string { data := #[] }] 29))).grown hg5 (by simp; omega) (fun q e => by have h9 := Option.some.inj (show some wr.heap.size = some q from e); omega)
          have hP5 := kK _ _ hP hbl5
          have hbD5 : Bk w5 (wr.heap.size + 1) 29 #[.int .i64 0, .string { data := #[] }, .string { data := #[] }, .string { data := #[] }] := (hg5.block _ hbE.lt (fun e => by have h9 := Option.some.inj (show some (wr.heap.size + 1) = some wr.heap.size from e); omega)).trans hbE
          refine hK.out _ _ hP5 (fun hHeld => ?_)
          clear hK K hHeld
          try simp only [Act.put, s1, s2, s3]
          clear hbE hbl5 hg5 ho5
          generalize wr.heap.size + 1 = gD at hbD5 hgw ⊢
          refine wpAnyH_ready (rs := [5]) (by kernel_rfl) (by simp) ?_
          refine AllReadyH.cons (o := { dst := some 83, op := Op.call { callee := Callee.value (Operand.func 14), args := #[Operand.tmp 78, Operand.tmp 79, Operand.tmp 82], argTypes := #[33, 3, 26] }, type := 31, pos := "law.go:414", after := #[{ on := 0, ground := Ground.data }, { on := 1, ground := Ground.data }, { on := 4, ground := Ground.data }, { on := 4, ground := Ground.chain }], guard := none }) rfl (fun K hK => ?_) AllReadyH.nil
          go_simp
          go_at_call 14
          refine (H12.out _ _ _ hr5).mono ?_
          rintro e w6 ⟨rfl, hb⟩
          go_wp2_with fail
          refine hK.out _ _ (kK _ _ hP5 hb) (fun hHeld => ?_)
          clear hK K hHeld
          try simp only [Act.put, s1, s2, s3]
          have hPD := kK _ _ hP5 hb
          have hbD := hbD5.below hb hbD5.lt
          clear hb hr5 hP5 hbD5
          generalize w6 = WD at hPD hbD ⊢
          have hHeld := hPD
          refine' tk5 (i := 6) (oi := { dst := some 77, op := Op.move (Operand.tmp 83), type := 31, pos := "law.go:414", after := #[{ on := 5, ground := Ground.data }], guard := none }) rfl ?hy10 (by assumption) ?rest10
          case hy10 => (intro W hSW; (try dsimp only at hSW); go_simp; with_reducible rfl)
          try simp only [Act.put, s1, s2, s3]
          refine' tk5 (i := 7) (oi := { dst := some 84, op := Op.extract (Operand.tmp 77) 0, type := 29, pos := "law.go:414", after := #[{ on := 6, ground := Ground.data }], guard := none }) rfl ?hy11 (by assumption) ?rest11
          case hy11 => (intro W hSW; (try dsimp only at hSW); go_simp; with_reducible rfl)
          try simp only [Act.put, s1, s2, s3]
          refine' tk5 (i := 8) (oi := { dst := some 85, op := Op.extract (Operand.tmp 77) 1, type := 30, pos := "law.go:414", after := #[{ on := 6, ground := Ground.data }, { on := 10, ground := Ground.gcOnly Departure.lateStores }], guard := none }) rfl ?hy12 (by assumption) ?rest12
          case hy12 => (intro W hSW; (try dsimp only at hSW); go_simp; with_reducible rfl)
          try simp only [Act.put, s1, s2, s3]
          obtain ⟨z0, z1, z2, z3, f0, f1, f2, f3⟩ := cells5 hbD
          have hgl2 := hbD.lt
          have hPS : P ((((WD.setCell ⟨gD, 0, none⟩ (.int .i64 zi)).setCell ⟨gD, 1, none⟩ (.string zp)).setCell ⟨gD, 2, none⟩ (.string zc)).setCell ⟨gD, 3, none⟩ (.string zx)) := kP _ _ hPD (below5 (Below.refl _ _) hgw)
          have hbS := store5 (x0 := .int .i64 zi) (x1 := .string zp) (x2 := .string zc) (x3 := .string zx) hbD
          refine wpAnyH_ready (rs := [10]) (by kernel_rfl) (by simp) ?_
          refine AllReadyH.cons (o := { dst := none, op := Op.store 29 (Operand.tmp 13) (Operand.tmp 84), type := 0, pos := "law.go:414", after := #[{ on := 9, ground := Ground.data }, { on := 7, ground := Ground.data }, { on := 5, ground := Ground.chain }, { on := 0, ground := Ground.phase }, { on := 1, ground := Ground.phase }, { on := 2, ground := Ground.phase }, { on := 3, ground := Ground.phase }, { on := 4, ground := Ground.phase }, { on := 5, ground := Ground.phase }, { on := 6, ground := Ground.phase }, { on := 7, ground := Ground.phase }, { on := 8, ground := Ground.textOnly Departure.lateStores }, { on := 9, ground := Ground.phase }], guard := none }) rfl (fun K hK => ?_) AllReadyH.nil
          go_simp
          refine hK.out _ _ (hPS) (fun hHeld => ?_)
          clear hK K
          try simp only [Act.put, s1, s2, s3]
          clear hHeld
          refine wpAnyH_ready (rs := [11]) (by kernel_rfl) (by simp) ?_
          refine AllReadyH.cons (o := { dst := some 14, op := Op.assign (Operand.tmp 85), type := 30, pos := "law.go:414", after := #[{ on := 8, ground := Ground.data }, { on := 10, ground := Ground.chain }, { on := 0, ground := Ground.phase }, { on := 1, ground := Ground.phase }, { on := 2, ground := Ground.phase }, { on := 3, ground := Ground.phase }, { on := 4, ground := Ground.phase }, { on := 5, ground := Ground.phase }, { on := 6, ground := Ground.phase }, { on := 7, ground := Ground.phase }, { on := 8, ground := Ground.phase }, { on := 9, ground := Ground.phase }, { on := 10, ground := Ground.phase }], guard := none }) rfl (fun K hK => ?_) AllReadyH.nil
          go_simp
          refine hK.out _ _ (hPS) (fun hHeld => ?_)
          clear hK K
          try simp only [Act.put, s1, s2, s3]
          clear hHeld
          refine wpAnyH_done (by kernel_rfl) ?_ _
          clear z0 z1 z2 z3 f0 f1 f2 f3 hgl2 hPD hbD
          generalize ((((WD.setCell ⟨gD, 0, none⟩ (.int .i64 zi)).setCell ⟨gD, 1, none⟩ (.string zp)).setCell ⟨gD, 2, none⟩ (.string zc)).setCell ⟨gD, 3, none⟩ (.string zx)) = WS at hPS hbS ⊢
          go_wp2_with fail
          go_meet
          exact ⟨rfl, hPS, gD, rfl, hbS⟩
        ·
         go_simp
         refine hK.out _ _ hPDq (fun hHeld => ?_)
         clear hK K hHeld
         try simp only [Act.put, s1, s2, s3]
         have hbE : Bk (wr.alloc (.cells #[.int .i64 0, .string { data := #[] }, .string { data := #[] }, .string { data := #[] }] 29)).drew wr.heap.size 29 #[.int .i64 0, .string { data := #[] }, .string { data := #[] }, .string { data := #[] }] := Bk.new wr 29 #[.int .i64 0, .string { data := #[] }, .string { data := #[] }, .string { data := #[] }]
         have hgw : B ≤ wr.heap.size := hwl
         generalize (wr.alloc (.cells #[.int .i64 0, .string { data := #[] }, .string { data := #[] }, .string { data := #[] }] 29)).drew = WE at hPDq hbE ⊢
         generalize wr.heap.size = gD at hbE hgw ⊢
         refine wpAnyH_ready (rs := [2]) (by kernel_rfl) (by simp) ?_
         refine AllReadyH.cons (o := { dst := some 80, op := Op.buildSlice 26 0 #[], type := 26, pos := "law.go:414", after := #[], guard := none }) rfl (fun K hK => ?_) AllReadyH.nil
         go_simp
         refine hK.out _ _ ((kK _ _ hPDq (bt_new _ _))) (fun hHeld => ?_)
         clear hK K
         try simp only [Act.put, s1, s2, s3]
         clear hHeld
         have hown := World.ownsRow_made (base := WE.heap.size) (e := 9) (size := 1) WE #[] 0 (Nat.le_refl _) (Nat.zero_le _) rfl
         have hgE := hbE.lt
         refine wpAnyH_ready (rs := [4]) (by kernel_rfl) (by simp) ?_
         refine AllReadyH.cons (o := { dst := some 82, op := Op.call { callee := Callee.builtin Builtin.append, args := #[Operand.tmp 80, Operand.tmp 81], argTypes := #[26, 26] }, type := 26, pos := "law.go:414", after := #[{ on := 2, ground := Ground.data }, { on := 3, ground := Ground.data }], guard := none }) rfl (fun K hK => ?_) AllReadyH.nil
         refine step_app5 rfl _ _ rfl _ rfl A10 n c10 (seqF o i n) rfl WE.heap.size hown Hsl.out ((fun X h => (oP.out X h).2.2.2.2) _ (kK _ _ hPDq (bt_new _ _))) Hnil10.out (by omega) (by simp) ?_
         intro A5 c5 w5 ho5 hg5
         have hr5 := rd_own5 ho5
         have hbl5 : Below WE.heap.size WE w5 := (bt_new WE (.cells #[] 9)).grown hg5 (by simp) (fun q e => by have h9 := Option.some.inj (show some WE.heap.size = some q from e); omega)
         have hP5 := kK _ _ hPDq hbl5
         have hbD5 := hbE.below hbl5 hgE
         refine hK.out _ _ hP5 (fun hHeld => ?_)
         clear hK K hHeld
         try simp only [Act.put, s1, s2, s3]
         clear hown hbl5 hg5 hbE hgE ho5
         refine wpAnyH_ready (rs := [5]) (by kernel_rfl) (by simp) ?_
         refine AllReadyH.cons (o := { dst := some 83, op := Op.call { callee := Callee.value (Operand.func 14), args := #[Operand.tmp 78, Operand.tmp 79, Operand.tmp 82], argTypes := #[33, 3, 26] }, type := 31, pos := "law.go:414", after := #[{ on := 0, ground := Ground.data }, { on := 1, ground := Ground.data }, { on := 4, ground := Ground.data }, { on := 4, ground := Ground.chain }], guard := none }) rfl (fun K hK => ?_) AllReadyH.nil
         go_simp
         go_at_call 14
         refine (H12.out _ _ _ hr5).mono ?_
         rintro e w6 ⟨rfl, hb⟩
         go_wp2_with fail
         refine hK.out _ _ (kK _ _ hP5 hb) (fun hHeld => ?_)
         clear hK K hHeld
         try simp only [Act.put, s1, s2, s3]
         have hPD := kK _ _ hP5 hb
         have hbD := hbD5.below hb hbD5.lt
         clear hb hr5 hP5 hbD5
         generalize w6 = WD at hPD hbD ⊢
         have hHeld := hPD
         refine' tk5 (i := 6) (oi := { dst := some 77, op := Op.move (Operand.tmp 83), type := 31, pos := "law.go:414", after := #[{ on := 5, ground := Ground.data }], guard := none }) rfl ?hy13 (by assumption) ?rest13
         case hy13 => (intro W hSW; (try dsimp only at hSW); go_simp; with_reducible rfl)
         try simp only [Act.put, s1, s2, s3]
         refine' tk5 (i := 7) (oi := { dst := some 84, op := Op.extract (Operand.tmp 77) 0, type := 29, pos := "law.go:414", after := #[{ on := 6, ground := Ground.data }], guard := none }) rfl ?hy14 (by assumption) ?rest14
         case hy14 => (intro W hSW; (try dsimp only at hSW); go_simp; with_reducible rfl)
         try simp only [Act.put, s1, s2, s3]
         refine' tk5 (i := 8) (oi := { dst := some 85, op := Op.extract (Operand.tmp 77) 1, type := 30, pos := "law.go:414", after := #[{ on := 6, ground := Ground.data }, { on := 10, ground := Ground.gcOnly Departure.lateStores }], guard := none }) rfl ?hy15 (by assumption) ?rest15
         case hy15 => (intro W hSW; (try dsimp only at hSW); go_simp; with_reducible rfl)
         try simp only [Act.put, s1, s2, s3]
         obtain ⟨z0, z1, z2, z3, f0, f1, f2, f3⟩ := cells5 hbD
         have hgl2 := hbD.lt
         have hPS : P ((((WD.setCell ⟨gD, 0, none⟩ (.int .i64 zi)).setCell ⟨gD, 1, none⟩ (.string zp)).setCell ⟨gD, 2, none⟩ (.string zc)).setCell ⟨gD, 3, none⟩ (.string zx)) := kP _ _ hPD (below5 (Below.refl _ _) hgw)
         have hbS := store5 (x0 := .int .i64 zi) (x1 := .string zp) (x2 := .string zc) (x3 := .string zx) hbD
         refine wpAnyH_ready (rs := [10]) (by kernel_rfl) (by simp) ?_
         refine AllReadyH.cons (o := { dst := none, op := Op.store 29 (Operand.tmp 13) (Operand.tmp 84), type := 0, pos := "law.go:414", after := #[{ on := 9, ground := Ground.data }, { on := 7, ground := Ground.data }, { on := 5, ground := Ground.chain }, { on := 0, ground := Ground.phase }, { on := 1, ground := Ground.phase }, { on := 2, ground := Ground.phase }, { on := 3, ground := Ground.phase }, { on := 4, ground := Ground.phase }, { on := 5, ground := Ground.phase }, { on := 6, ground := Ground.phase }, { on := 7, ground := Ground.phase }, { on := 8, ground := Ground.textOnly Departure.lateStores }, { on := 9, ground := Ground.phase }], guard := none }) rfl (fun K hK => ?_) AllReadyH.nil
         go_simp
         refine hK.out _ _ (hPS) (fun hHeld => ?_)
         clear hK K
         try simp only [Act.put, s1, s2, s3]
         clear hHeld
         refine wpAnyH_ready (rs := [11]) (by kernel_rfl) (by simp) ?_
         refine AllReadyH.cons (o := { dst := some 14, op := Op.assign (Operand.tmp 85), type := 30, pos := "law.go:414", after := #[{ on := 8, ground := Ground.data }, { on := 10, ground := Ground.chain }, { on := 0, ground := Ground.phase }, { on := 1, ground := Ground.phase }, { on := 2, ground := Ground.phase }, { on := 3, ground := Ground.phase }, { on := 4, ground := Ground.phase }, { on := 5, ground := Ground.phase }, { on := 6, ground := Ground.phase }, { on := 7, ground := Ground.phase }, { on := 8, ground := Ground.phase }, { on := 9, ground := Ground.phase }, { on := 10, ground := Ground.phase }], guard := none }) rfl (fun K hK => ?_) AllReadyH.nil
         go_simp
         refine hK.out _ _ (hPS) (fun hHeld => ?_)
         clear hK K
         try simp only [Act.put, s1, s2, s3]
         clear hHeld
         refine wpAnyH_done (by kernel_rfl) ?_ _
         clear z0 z1 z2 z3 f0 f1 f2 f3 hgl2 hPD hbD
         generalize ((((WD.setCell ⟨gD, 0, none⟩ (.int .i64 zi)).setCell ⟨gD, 1, none⟩ (.string zp)).setCell ⟨gD, 2, none⟩ (.string zc)).setCell ⟨gD, 3, none⟩ (.string zx)) = WS at hPS hbS ⊢
         go_wp2_with fail
         go_meet
         exact ⟨rfl, hPS, gD, rfl, hbS⟩
      case rest =>
       obtain ⟨rfl, hPc, g13, rfl, _⟩ := hcut
       clear hP H12
       revert hPc
       generalize wc = W2
       intro hP
       as_aux_lemma =>
        go_upto_region 13 with fail
        go_cut [15, 16] from 32 (fun s15 s16 wr => s16 = .int .i64 0 ∧ P wr ∧ ∃ A' c', s15 = .slice A' ([] : List Int).length c' ∧ Rd wr A' (([] : List Int).map (.int .i64)))
        case first =>
         as_aux_lemma =>
          have hP0 : P W2.drew := kK _ _ hP (bt_drew (Below.refl _ W2))
          have hPE : P (W2.alloc (.cells #[] 9)).drew := kK _ _ hP (bt_drew (bt_new W2 (.cells #[] 9)))
          have hownE : (W2.alloc (.cells #[] 9)).drew.ownsRow W2.heap.size 9 1 (.slice (some ⟨W2.heap.size, 0, none⟩) 0 0) 0 [] := World.ownsRow_made W2 #[] 0 (Nat.le_refl _) (Nat.zero_le _) rfl
          refine wp_region_held_drew (S := P) (by kernel_rfl) (hP0) (fun hHeld => ?_)
          refine' wpAnyH_take (i := 0) (oi := { dst := some 87, op := Op.load 33 (Operand.tmp 8), type := 33, pos := "law.go:415", after := #[], guard := none }) (v := _) rfl (by kernel_rfl) (by kernel_rfl) (by kernel_rfl) (fun _ _ _ h => h) (yieldsIf_load_mid (by kernel_rfl) _ _ rfl _ _ rfl (oc) _ (fun W h => HR.out W h) Tryz.underlying33 rfl (T.l33)) (by assumption) ?rest16
          try simp only [Act.put, s1, s2, s3]
          refine' tk5 (i := 1) (oi := { dst := some 88, op := Op.move (Operand.tmp 7), type := 3, pos := "law.go:415", after := #[], guard := none }) rfl ?hy17 (by assumption) ?rest17
          case hy17 => (intro W hSW; (try dsimp only at hSW); go_simp; with_reducible rfl)
          try simp only [Act.put, s1, s2, s3]
          refine' tk5 (i := 3) (oi := { dst := some 90, op := Op.move (Operand.tmp 10), type := 26, pos := "law.go:415", after := #[], guard := none }) rfl ?hy18 (by assumption) ?rest18
          case hy18 => (intro W hSW; (try dsimp only at hSW); go_simp; with_reducible rfl)
          try simp only [Act.put, s1, s2, s3]
          refine wpAnyH_ready (rs := [2]) (by kernel_rfl) (by simp) ?_
          refine AllReadyH.cons (o := { dst := some 89, op := Op.buildSlice 26 0 #[], type := 26, pos := "law.go:415", after := #[], guard := none }) rfl (fun K hK => ?_) AllReadyH.nil
          go_simp
          refine hK.out _ _ (hPE) (fun hHeld => ?_)
          clear hK K
          try simp only [Act.put, s1, s2, s3]
          refine wpAnyH_ready (rs := [4]) (by kernel_rfl) (by simp) ?_
          refine AllReadyH.cons (o := { dst := some 91, op := Op.call { callee := Callee.builtin Builtin.append, args := #[Operand.tmp 89, Operand.tmp 90], argTypes := #[26, 26] }, type := 26, pos := "law.go:415", after := #[{ on := 2, ground := Ground.data }, { on := 3, ground := Ground.data }], guard := none }) rfl (fun K hK => ?_) AllReadyH.nil
          refine step_app5 rfl _ _ rfl _ rfl A10 n c10 (seqF o i n) rfl W2.heap.size hownE Hsl.out ((fun X h => (oP.out X h).2.2.2.2) _ hPE) Hnil10.out (by omega) (by simp) ?_
          intro A5 c5 w5 ho5 hg5
          have hr5 := rd_own5 ho5
          have hbl5 : Below W2.heap.size W2 w5 := (bt_drew (bt_new W2 (.cells #[] 9))).grown hg5 (by simp) (fun q e => by have h9 := Option.some.inj (show some W2.heap.size = some q from e); omega)
          have hP5 := kK _ _ hP hbl5
          refine hK.out _ _ hP5 (fun hHeld => ?_)
          clear hK K hHeld hbl5 hg5 ho5
          try simp only [Act.put, s1, s2, s3]
          refine wpAnyH_ready (rs := [5]) (by kernel_rfl) (by simp) ?_
          refine AllReadyH.cons (o := { dst := some 92, op := Op.call { callee := Callee.value (Operand.func 15), args := #[Operand.tmp 87, Operand.tmp 88, Operand.tmp 91], argTypes := #[33, 3, 26] }, type := 35, pos := "law.go:415", after := #[{ on := 0, ground := Ground.data }, { on := 1, ground := Ground.data }, { on := 4, ground := Ground.data }, { on := 4, ground := Ground.chain }], guard := none }) rfl (fun K hK => ?_) AllReadyH.nil
          go_simp
          (go_at_call 15; refine (H13.out _ _ _ hr5).mono ?_; rintro e w6 ⟨⟨v, rfl, hv⟩, hb⟩)
          go_wp2_with fail
          refine hK.out _ _ (kK _ _ hP5 hb) (fun hHeld => ?_)
          clear hK K
          try simp only [Act.put, s1, s2, s3]
          refine' tk5 (i := 6) (oi := { dst := some 86, op := Op.move (Operand.tmp 92), type := 35, pos := "law.go:415", after := #[{ on := 5, ground := Ground.data }], guard := none }) rfl ?hy19 (by assumption) ?rest19
          case hy19 => (intro W hSW; (try dsimp only at hSW); go_simp; with_reducible rfl)
          try simp only [Act.put, s1, s2, s3]
          refine' tk5 (i := 7) (oi := { dst := some 93, op := Op.extract (Operand.tmp 86) 0, type := 34, pos := "law.go:415", after := #[{ on := 6, ground := Ground.data }], guard := none }) rfl ?hy20 (by assumption) ?rest20
          case hy20 => (intro W hSW; (try dsimp only at hSW); go_simp; with_reducible rfl)
          try simp only [Act.put, s1, s2, s3]
          refine' tk5 (i := 8) (oi := { dst := some 94, op := Op.extract (Operand.tmp 86) 1, type := 30, pos := "law.go:415", after := #[{ on := 6, ground := Ground.data }, { on := 9, ground := Ground.gcOnly Departure.lateStores }], guard := none }) rfl ?hy21 (by assumption) ?rest21
          case hy21 => (intro W hSW; (try dsimp only at hSW); go_simp; with_reducible rfl)
          try simp only [Act.put, s1, s2, s3]
          refine wpAnyH_ready (rs := [9]) (by kernel_rfl) (by simp) ?_
          refine AllReadyH.cons (o := { dst := some 15, op := Op.assign (Operand.tmp 93), type := 34, pos := "law.go:415", after := #[{ on := 7, ground := Ground.data }, { on := 5, ground := Ground.chain }, { on := 0, ground := Ground.phase }, { on := 1, ground := Ground.phase }, { on := 2, ground := Ground.phase }, { on := 3, ground := Ground.phase }, { on := 4, ground := Ground.phase }, { on := 5, ground := Ground.phase }, { on := 6, ground := Ground.phase }, { on := 7, ground := Ground.phase }, { on := 8, ground := Ground.textOnly Departure.lateStores }], guard := none }) rfl (fun K hK => ?_) AllReadyH.nil
          go_simp
          refine hK.out _ _ (hHeld) (fun hHeld => ?_)
          clear hK K
          try simp only [Act.put, s1, s2, s3]
          refine wpAnyH_ready (rs := [10]) (by kernel_rfl) (by simp) ?_
          refine AllReadyH.cons (o := { dst := some 16, op := Op.assign (Operand.tmp 94), type := 30, pos := "law.go:415", after := #[{ on := 8, ground := Ground.data }, { on := 9, ground := Ground.chain }, { on := 0, ground := Ground.phase }, { on := 1, ground := Ground.phase }, { on := 2, ground := Ground.phase }, { on := 3, ground := Ground.phase }, { on := 4, ground := Ground.phase }, { on := 5, ground := Ground.phase }, { on := 6, ground := Ground.phase }, { on := 7, ground := Ground.phase }, { on := 8, ground := Ground.phase }, { on := 9, ground := Ground.phase }], guard := none }) rfl (fun K hK => ?_) AllReadyH.nil
          go_simp
          refine hK.out _ _ (hHeld) (fun hHeld => ?_)
          clear hK K
          try simp only [Act.put, s1, s2, s3]
          refine wpAnyH_done (by kernel_rfl) ?_ _
          go_wp2_with fail
          go_meet
          obtain ⟨_, A6, c6, rfl, hr6⟩ := hv
          exact ⟨rfl, hHeld, A6, c6, rfl, hr6⟩
        case rest =>
         obtain ⟨rfl, hPc, A15, c15, rfl, _⟩ := hcut
         clear hP H13
         revert hPc
         generalize wc = W3
         intro hP
         as_aux_lemma =>
          go_upto_region 14 with fail
          rcases HT1.out with ⟨hd, hi2, he⟩ | ⟨j, hj, I, hI, a, ha, p, cc, nx, hp, hc, hne, hd, hi2, h1, h2, hs, h3⟩
          ·
           have H14 := Lib.hid (T.hd names n zi zp zc zx 7 Hnl.out (by omega) (by rw [← hzz]; exact hd))
           have H15 := Lib.hid (T.hi names n [] 0 Hnl.out (by omega) hi2)
           rw [Hnl.out] at he
           have He := Lib.hid he
           clear hd hi2 he HT1
           as_aux_lemma =>
            go_cut [17, 18] from 32 (fun s17 s18 wr => s18 = .int .i64 7 ∧ P wr ∧ ∃ g, s17 = .pointer (some ⟨g, 0, none⟩) ∧ Bk wr g 29 #[.int .i64 zi, .string zp, .string zc, .string zx])
            case first =>
             as_aux_lemma =>
              have hP0 : P W3.drew := kK _ _ hP (bt_drew (Below.refl _ W3))
              have hPE : P (W3.alloc (.cells #[] 9)).drew := kK _ _ hP (bt_drew (bt_new W3 (.cells #[] 9)))
              have hPDq : P (W3.alloc (.cells #[.int .i64 0, .string { data := #[] }, .string { data := #[] }, .string { data := #[] }] 29)).drew := kK _ _ hP (bt_drew (bt_new W3 _))
              have hPED : P ((W3.alloc (.cells #[] 9)).alloc (.cells #[.int .i64 0, .string { data := #[] }, .string { data := #[] }, .string { data := #[] }] 29)).drew := kK _ _ hP (bt_drew (bt_alloc (bt_new W3 _) _))
              have hownE : (W3.alloc (.cells #[] 9)).drew.ownsRow W3.heap.size 9 1 (.slice (some ⟨W3.heap.size, 0, none⟩) 0 0) 0 [] := World.ownsRow_made W3 #[] 0 (Nat.le_refl _) (Nat.zero_le _) rfl
              have hownED : ((W3.alloc (.cells #[] 9)).alloc (.cells #[.int .i64 0, .string { data := #[] }, .string { data := #[] }, .string { data := #[] }] 29)).drew.ownsRow W3.heap.size 9 1 (.slice (some ⟨W3.heap.size, 0, none⟩) 0 0) 0 [] := World.ownsRow.alloc (World.ownsRow_made W3 #[] 0 (Nat.le_refl _) (Nat.zero_le _) rfl) _
              have hwl : B ≤ W3.heap.size := hPB _ hP
              refine wp_region_held_drew (S := P) (by kernel_rfl) (hP0) (fun hHeld => ?_)
              refine' wpAnyH_take (i := 0) (oi := { dst := some 96, op := Op.load 33 (Operand.tmp 8), type := 33, pos := "law.go:416", after := #[], guard := none }) (v := _) rfl (by kernel_rfl) (by kernel_rfl) (by kernel_rfl) (fun _ _ _ h => h) (yieldsIf_load_mid (by kernel_rfl) _ _ rfl _ _ rfl (oc) _ (fun W h => HR.out W h) Tryz.underlying33 rfl (T.l33)) (by assumption) ?rest22
              try simp only [Act.put, s1, s2, s3]
              refine' tk5 (i := 1) (oi := { dst := some 97, op := Op.move (Operand.tmp 7), type := 3, pos := "law.go:416", after := #[], guard := none }) rfl ?hy23 (by assumption) ?rest23
              case hy23 => (intro W hSW; (try dsimp only at hSW); go_simp; with_reducible rfl)
              try simp only [Act.put, s1, s2, s3]
              refine' tk5 (i := 3) (oi := { dst := some 99, op := Op.move (Operand.tmp 9), type := 26, pos := "law.go:416", after := #[], guard := none }) rfl ?hy24 (by assumption) ?rest24
              case hy24 => (intro W hSW; (try dsimp only at hSW); go_simp; with_reducible rfl)
              try simp only [Act.put, s1, s2, s3]
              refine wpAnyH_ready (rs := [2, 9]) (by kernel_rfl) (by simp) ?_
              refine AllReadyH.cons (o := { dst := some 98, op := Op.buildSlice 26 0 #[], type := 26, pos := "law.go:416", after := #[], guard := none }) rfl (fun K hK => ?_) (AllReadyH.cons (o := { dst := some 17, op := Op.alloc 29, type := 0, pos := "law.go:416", after := #[], guard := none }) rfl (fun K hK => ?_) AllReadyH.nil)
              ·
               go_simp
               refine hK.out _ _ hPE (fun hHeld => ?_)
               clear hK K hHeld
               try simp only [Act.put, s1, s2, s3]
               refine wpAnyH_ready (rs := [4, 9]) (by kernel_rfl) (by simp) ?_
               refine AllReadyH.cons (o := { dst := some 100, op := Op.call { callee := Callee.builtin Builtin.append, args := #[Operand.tmp 98, Operand.tmp 99], argTypes := #[26, 26] }, type := 26, pos := "law.go:416", after := #[{ on := 2, ground := Ground.data }, { on := 3, ground := Ground.data }], guard := none }) rfl (fun K hK => ?_) (AllReadyH.cons (o := { dst := some 17, op := Op.alloc 29, type := 0, pos := "law.go:416", after := #[], guard := none }) rfl (fun K hK => ?_) AllReadyH.nil)
               ·
                refine step_app5 rfl _ _ rfl _ rfl A9 n c9 names rfl W3.heap.size hownE Hnl.out ((fun X h => (oP.out X h).2.2.2.1) _ hPE) Hnil9.out (by omega) (by simp) ?_
                intro A5 c5 w5 ho5 hg5
                have hr5 := rd_own5 ho5
                have hbl5 : Below W3.heap.size W3 w5 := (bt_drew (bt_new W3 (.cells #[] 9))).grown hg5 (by simp) (fun q e => by have h9 := Option.some.inj (show some W3.heap.size = some q from e); omega)
                have hP5 := kK _ _ hP hbl5
                refine hK.out _ _ hP5 (fun hHeld => ?_)
                clear hK K hHeld hbl5 hg5 ho5
                try simp only [Act.put, s1, s2, s3]
                refine wpAnyH_ready (rs := [5, 9]) (by kernel_rfl) (by simp) ?_
                refine AllReadyH.cons (o := { dst := some 101, op := Op.call { callee := Callee.value (Operand.func 14), args := #[Operand.tmp 96, Operand.tmp 97, Operand.tmp 100], argTypes := #[33, 3, 26] }, type := 31, pos := "law.go:416", after := #[{ on := 0, ground := Ground.data }, { on := 1, ground := Ground.data }, { on := 4, ground := Ground.data }, { on := 4, ground := Ground.chain }], guard := none }) rfl (fun K hK => ?_) (AllReadyH.cons (o := { dst := some 17, op := Op.alloc 29, type := 0, pos := "law.go:416", after := #[], guard := none }) rfl (fun K hK => ?_) AllReadyH.nil)
                ·
                 go_simp
                 go_at_call 14
                 refine (H14.out _ _ _ hr5).mono ?_
                 rintro e w6 ⟨rfl, hb⟩
                 go_wp2_with fail
                 refine hK.out _ _ (kK _ _ hP5 hb) (fun hHeld => ?_)
                 clear hK K hHeld
                 try simp only [Act.put, s1, s2, s3]
                 have hP6 := kK _ _ hP5 hb
                 clear hb hr5 hP5
                 have hHeld := hP6
                 refine' tk5 (i := 6) (oi := { dst := some 95, op := Op.move (Operand.tmp 101), type := 31, pos := "law.go:416", after := #[{ on := 5, ground := Ground.data }], guard := none }) rfl ?hy25 (by assumption) ?rest25
                 case hy25 => (intro W hSW; (try dsimp only at hSW); go_simp; with_reducible rfl)
                 try simp only [Act.put, s1, s2, s3]
                 refine' tk5 (i := 7) (oi := { dst := some 102, op := Op.extract (Operand.tmp 95) 0, type := 29, pos := "law.go:416", after := #[{ on := 6, ground := Ground.data }], guard := none }) rfl ?hy26 (by assumption) ?rest26
                 case hy26 => (intro W hSW; (try dsimp only at hSW); go_simp; with_reducible rfl)
                 try simp only [Act.put, s1, s2, s3]
                 refine' tk5 (i := 8) (oi := { dst := some 103, op := Op.extract (Operand.tmp 95) 1, type := 30, pos := "law.go:416", after := #[{ on := 6, ground := Ground.data }, { on := 10, ground := Ground.gcOnly Departure.lateStores }], guard := none }) rfl ?hy27 (by assumption) ?rest27
                 case hy27 => (intro W hSW; (try dsimp only at hSW); go_simp; with_reducible rfl)
                 try simp only [Act.put, s1, s2, s3]
                 clear hHeld
                 refine wpAnyH_ready (rs := [9]) (by kernel_rfl) (by simp) ?_
                 refine AllReadyH.cons (o := { dst := some 17, op := Op.alloc 29, type := 0, pos := "law.go:416", after := #[], guard := none }) rfl (fun K hK => ?_) AllReadyH.nil
                 go_simp
                 refine hK.out _ _ ((kK _ _ hP6 (bt_new _ _))) (fun hHeld => ?_)
                 clear hK K
                 try simp only [Act.put, s1, s2, s3]
                 clear hHeld
                 have hPD := kK _ _ hP6 (bt_new w6 (.cells #[.int .i64 0, .string { data := #[] }, .string { data := #[] }, .string { data := #[] }] 29))
                 have hbD := Bk.new w6 29 #[.int .i64 0, .string { data := #[] }, .string { data := #[] }, .string { data := #[] }]
                 have hgw : B ≤ w6.heap.size := hPB _ hP6
                 generalize (w6.alloc (.cells #[.int .i64 0, .string { data := #[] }, .string { data := #[] }, .string { data := #[] }] 29)) = WD at hPD hbD ⊢
                 generalize w6.heap.size = gD at hbD hgw ⊢
                 clear hP6
                 have hHeld := hPD
                 obtain ⟨z0, z1, z2, z3, f0, f1, f2, f3⟩ := cells5 hbD
                 have hgl2 := hbD.lt
                 have hPS : P ((((WD.setCell ⟨gD, 0, none⟩ (.int .i64 zi)).setCell ⟨gD, 1, none⟩ (.string zp)).setCell ⟨gD, 2, none⟩ (.string zc)).setCell ⟨gD, 3, none⟩ (.string zx)) := kP _ _ hPD (below5 (Below.refl _ _) hgw)
                 have hbS := store5 (x0 := .int .i64 zi) (x1 := .string zp) (x2 := .string zc) (x3 := .string zx) hbD
                 refine wpAnyH_ready (rs := [10]) (by kernel_rfl) (by simp) ?_
                 refine AllReadyH.cons (o := { dst := none, op := Op.store 29 (Operand.tmp 17) (Operand.tmp 102), type := 0, pos := "law.go:416", after := #[{ on := 9, ground := Ground.data }, { on := 7, ground := Ground.data }, { on := 5, ground := Ground.chain }, { on := 0, ground := Ground.phase }, { on := 1, ground := Ground.phase }, { on := 2, ground := Ground.phase }, { on := 3, ground := Ground.phase }, { on := 4, ground := Ground.phase }, { on := 5, ground := Ground.phase }, { on := 6, ground := Ground.phase }, { on := 7, ground := Ground.phase }, { on := 8, ground := Ground.textOnly Departure.lateStores }, { on := 9, ground := Ground.phase }], guard := none }) rfl (fun K hK => ?_) AllReadyH.nil
                 go_simp
                 refine hK.out _ _ (hPS) (fun hHeld => ?_)
                 clear hK K
                 try simp only [Act.put, s1, s2, s3]
                 clear hHeld
                 refine wpAnyH_ready (rs := [11]) (by kernel_rfl) (by simp) ?_
                 refine AllReadyH.cons (o := { dst := some 18, op := Op.assign (Operand.tmp 103), type := 30, pos := "law.go:416", after := #[{ on := 8, ground := Ground.data }, { on := 10, ground := Ground.chain }, { on := 0, ground := Ground.phase }, { on := 1, ground := Ground.phase }, { on := 2, ground := Ground.phase }, { on := 3, ground := Ground.phase }, { on := 4, ground := Ground.phase }, { on := 5, ground := Ground.phase }, { on := 6, ground := Ground.phase }, { on := 7, ground := Ground.phase }, { on := 8, ground := Ground.phase }, { on := 9, ground := Ground.phase }, { on := 10, ground := Ground.phase }], guard := none }) rfl (fun K hK => ?_) AllReadyH.nil
                 go_simp
                 refine hK.out _ _ (hPS) (fun hHeld => ?_)
                 clear hK K
                 try simp only [Act.put, s1, s2, s3]
                 clear hHeld
                 refine wpAnyH_done (by kernel_rfl) ?_ _
                 clear z0 z1 z2 z3 f0 f1 f2 f3 hgl2 hPD hbD
                 generalize ((((WD.setCell ⟨gD, 0, none⟩ (.int .i64 zi)).setCell ⟨gD, 1, none⟩ (.string zp)).setCell ⟨gD, 2, none⟩ (.string zc)).setCell ⟨gD, 3, none⟩ (.string zx)) = WS at hPS hbS ⊢
                 go_wp2_with fail
                 go_meet
                 exact ⟨rfl, hPS, gD, rfl, hbS⟩
                ·
                 go_simp
                 refine hK.out _ _ (kK _ _ hP5 (bt_new _ _)) (fun hHeld => ?_)
                 clear hK K hHeld
                 try simp only [Act.put, s1, s2, s3]
                 have hPD5 := kK _ _ hP5 (bt_new w5 (.cells #[.int .i64 0, .string { data := #[] }, .string { data := #[] }, .string { data := #[] }] 29))
                 have hbD5 := Bk.new w5 29 #[.int .i64 0, .string { data := #[] }, .string { data := #[] }, .string { data := #[] }]
                 have hgw : B ≤ w5.heap.size := hPB _ hP5
                 have hr5' := hr5.below (bt_new w5 (.cells #[.int .i64 0, .string { data := #[] }, .string { data := #[] }, .string { data := #[] }] 29))
                 generalize (w5.alloc (.cells #[.int .i64 0, .string { data := #[] }, .string { data := #[] }, .string { data := #[] }] 29)) = WE at hPD5 hbD5 hr5' ⊢
                 generalize w5.heap.size = gD at hbD5 hgw ⊢
                 clear hP5 hr5
                 refine wpAnyH_ready (rs := [5]) (by kernel_rfl) (by simp) ?_
                 refine AllReadyH.cons (o := { dst := some 101, op := Op.call { callee := Callee.value (Operand.func 14), args := #[Operand.tmp 96, Operand.tmp 97, Operand.tmp 100], argTypes := #[33, 3, 26] }, type := 31, pos := "law.go:416", after := #[{ on := 0, ground := Ground.data }, { on := 1, ground := Ground.data }, { on := 4, ground := Ground.data }, { on := 4, ground := Ground.chain }], guard := none }) rfl (fun K hK => ?_) AllReadyH.nil
                 go_simp
                 go_at_call 14
                 refine (H14.out _ _ _ hr5').mono ?_
                 rintro e w6 ⟨rfl, hb⟩
                 go_wp2_with fail
                 refine hK.out _ _ (kK _ _ hPD5 hb) (fun hHeld => ?_)
                 clear hK K hHeld
                 try simp only [Act.put, s1, s2, s3]
                 have hPD := kK _ _ hPD5 hb
                 have hbD := hbD5.below hb hbD5.lt
                 clear hb hr5' hPD5 hbD5
                 generalize w6 = WD at hPD hbD ⊢
                 have hHeld := hPD
                 refine' tk5 (i := 6) (oi := { dst := some 95, op := Op.move (Operand.tmp 101), type := 31, pos := "law.go:416", after := #[{ on := 5, ground := Ground.data }], guard := none }) rfl ?hy28 (by assumption) ?rest28
                 case hy28 => (intro W hSW; (try dsimp only at hSW); go_simp; with_reducible rfl)
                 try simp only [Act.put, s1, s2, s3]
                 refine' tk5 (i := 7) (oi := { dst := some 102, op := Op.extract (Operand.tmp 95) 0, type := 29, pos := "law.go:416", after := #[{ on := 6, ground := Ground.data }], guard := none }) rfl ?hy29 (by assumption) ?rest29
                 case hy29 => (intro W hSW; (try dsimp only at hSW); go_simp; with_reducible rfl)
                 try simp only [Act.put, s1, s2, s3]
                 refine' tk5 (i := 8) (oi := { dst := some 103, op := Op.extract (Operand.tmp 95) 1, type := 30, pos := "law.go:416", after := #[{ on := 6, ground := Ground.data }, { on := 10, ground := Ground.gcOnly Departure.lateStores }], guard := none }) rfl ?hy30 (by assumption) ?rest30
                 case hy30 => (intro W hSW; (try dsimp only at hSW); go_simp; with_reducible rfl)
                 try simp only [Act.put, s1, s2, s3]
                 obtain ⟨z0, z1, z2, z3, f0, f1, f2, f3⟩ := cells5 hbD
                 have hgl2 := hbD.lt
                 have hPS : P ((((WD.setCell ⟨gD, 0, none⟩ (.int .i64 zi)).setCell ⟨gD, 1, none⟩ (.string zp)).setCell ⟨gD, 2, none⟩ (.string zc)).setCell ⟨gD, 3, none⟩ (.string zx)) := kP _ _ hPD (below5 (Below.refl _ _) hgw)
                 have hbS := store5 (x0 := .int .i64 zi) (x1 := .string zp) (x2 := .string zc) (x3 := .string zx) hbD
                 refine wpAnyH_ready (rs := [10]) (by kernel_rfl) (by simp) ?_
                 refine AllReadyH.cons (o := { dst := none, op := Op.store 29 (Operand.tmp 17) (Operand.tmp 102), type := 0, pos := "law.go:416", after := #[{ on := 9, ground := Ground.data }, { on := 7, ground := Ground.data }, { on := 5, ground := Ground.chain }, { on := 0, ground := Ground.phase }, { on := 1, ground := Ground.phase }, { on := 2, ground := Ground.phase }, { on := 3, ground := Ground.phase }, { on := 4, ground := Ground.phase }, { on := 5, ground := Ground.phase }, { on := 6, ground := Ground.phase }, { on := 7, ground := Ground.phase }, { on := 8, ground := Ground.textOnly Departure.lateStores }, { on := 9, ground := Ground.phase }], guard := none }) rfl (fun K hK => ?_) AllReadyH.nil
                 go_simp
                 refine hK.out _ _ (hPS) (fun hHeld => ?_)
                 clear hK K
                 try simp only [Act.put, s1, s2, s3]
                 clear hHeld
                 refine wpAnyH_ready (rs := [11]) (by kernel_rfl) (by simp) ?_
                 refine AllReadyH.cons (o := { dst := some 18, op := Op.assign (Operand.tmp 103), type := 30, pos := "law.go:416", after := #[{ on := 8, ground := Ground.data }, { on := 10, ground := Ground.chain }, { on := 0, ground := Ground.phase }, { on := 1, ground := Ground.phase }, { on := 2, ground := Ground.phase }, { on := 3, ground := Ground.phase }, { on := 4, ground := Ground.phase }, { on := 5, ground := Ground.phase }, { on := 6, ground := Ground.phase }, { on := 7, ground := Ground.phase }, { on := 8, ground := Ground.phase }, { on := 9, ground := Ground.phase }, { on := 10, ground := Ground.phase }], guard := none }) rfl (fun K hK => ?_) AllReadyH.nil
                 go_simp
                 refine hK.out _ _ (hPS) (fun hHeld => ?_)
                 clear hK K
                 try simp only [Act.put, s1, s2, s3]
                 clear hHeld
                 refine wpAnyH_done (by kernel_rfl) ?_ _
                 clear z0 z1 z2 z3 f0 f1 f2 f3 hgl2 hPD hbD
                 generalize ((((WD.setCell ⟨gD, 0, none⟩ (.int .i64 zi)).setCell ⟨gD, 1, none⟩ (.string zp)).setCell ⟨gD, 2, none⟩ (.string zc)).setCell ⟨gD, 3, none⟩ (.string zx)) = WS at hPS hbS ⊢
                 go_wp2_with fail
                 go_meet
                 exact ⟨rfl, hPS, gD, rfl, hbS⟩
               ·
                go_simp
                refine hK.out _ _ hPED (fun hHeld => ?_)
                clear hK K hHeld
                try simp only [Act.put, s1, s2, s3]
                have hbE : Bk ((W3.alloc (.cells #[] 9)).alloc (.cells #[.int .i64 0, .string { data := #[] }, .string { data := #[] }, .string { data := #[] }] 29)).drew (W3.heap.size + 1) 29 #[.int .i64 0, .string { data := #[] }, .string { data := #[] }, .string { data := #[] }] := by
                 have := Bk.new (W3.alloc (.cells #[] 9)) 29 #[.int .i64 0, .string { data := #[] }, .string { data := #[] }, .string { data := #[] }]
                 rw [World.size_alloc] at this
                 exact this
                have hgw : B ≤ W3.heap.size + 1 := by omega
                refine wpAnyH_ready (rs := [4]) (by kernel_rfl) (by simp) ?_
                refine AllReadyH.cons (o := { dst := some 100, op := Op.call { callee := Callee.builtin Builtin.append, args := #[Operand.tmp 98, Operand.tmp 99], argTypes := #[26, 26] }, type := 26, pos := "law.go:416", after := #[{ on := 2, ground := Ground.data }, { on := 3, ground := Ground.data }], guard := none }) rfl (fun K hK => ?_) AllReadyH.nil
                refine step_app5 rfl _ _ rfl _ rfl A9 n c9 names rfl W3.heap.size hownED Hnl.out ((fun X h => (oP.out X h).2.2.2.1) _ hPED) Hnil9.out (by omega) (by simp; omega) ?_
                intro A5 c5 w5 ho5 hg5
                have hr5 := rd_own5 ho5
                have hbl5 : Below W3.heap.size W3 w5 := (bt_drew (bt_alloc (bt_new W3 (.cells #[] 9)) (.cells #[.int .i64 0, .string { data := #[] }, .string { data := #[] }, .string { data := #[] }] 29))).grown hg5 (by simp; omega) (fun q e => by have h9 := Option.some.inj (show some W3.heap.size = some q from e); omega)
                have hP5 := kK _ _ hP hbl5
                have hbD5 : Bk w5 (W3.heap.size + 1) 29 #[.int .i64 0, .string { data := #[] }, .string { data := #[] }, .string { data := #[] }] := (hg5.block _ hbE.lt (fun e => by have h9 := Option.some.inj (show some (W3.heap.size + 1) = some W3.heap.size from e); omega)).trans hbE
                refine hK.out _ _ hP5 (fun hHeld => ?_)
                clear hK K hHeld
                try simp only [Act.put, s1, s2, s3]
                clear hbE hbl5 hg5 ho5
                generalize W3.heap.size + 1 = gD at hbD5 hgw ⊢
                refine wpAnyH_ready (rs := [5]) (by kernel_rfl) (by simp) ?_
                refine AllReadyH.cons (o := { dst := some 101, op := Op.call { callee := Callee.value (Operand.func 14), args := #[Operand.tmp 96, Operand.tmp 97, Operand.tmp 100], argTypes := #[33, 3, 26] }, type := 31, pos := "law.go:416", after := #[{ on := 0, ground := Ground.data }, { on := 1, ground := Ground.data }, { on := 4, ground := Ground.data }, { on := 4, ground := Ground.chain }], guard := none }) rfl (fun K hK => ?_) AllReadyH.nil
                go_simp
                go_at_call 14
                refine (H14.out _ _ _ hr5).mono ?_
                rintro e w6 ⟨rfl, hb⟩
                go_wp2_with fail
                refine hK.out _ _ (kK _ _ hP5 hb) (fun hHeld => ?_)
                clear hK K hHeld
                try simp only [Act.put, s1, s2, s3]
                have hPD := kK _ _ hP5 hb
                have hbD := hbD5.below hb hbD5.lt
                clear hb hr5 hP5 hbD5
                generalize w6 = WD at hPD hbD ⊢
                have hHeld := hPD
                refine' tk5 (i := 6) (oi := { dst := some 95, op := Op.move (Operand.tmp 101), type := 31, pos := "law.go:416", after := #[{ on := 5, ground := Ground.data }], guard := none }) rfl ?hy31 (by assumption) ?rest31
                case hy31 => (intro W hSW; (try dsimp only at hSW); go_simp; with_reducible rfl)
                try simp only [Act.put, s1, s2, s3]
                refine' tk5 (i := 7) (oi := { dst := some 102, op := Op.extract (Operand.tmp 95) 0, type := 29, pos := "law.go:416", after := #[{ on := 6, ground := Ground.data }], guard := none }) rfl ?hy32 (by assumption) ?rest32
                case hy32 => (intro W hSW; (try dsimp only at hSW); go_simp; with_reducible rfl)
                try simp only [Act.put, s1, s2, s3]
                refine' tk5 (i := 8) (oi := { dst := some 103, op := Op.extract (Operand.tmp 95) 1, type := 30, pos := "law.go:416", after := #[{ on := 6, ground := Ground.data }, { on := 10, ground := Ground.gcOnly Departure.lateStores }], guard := none }) rfl ?hy33 (by assumption) ?rest33
                case hy33 => (intro W hSW; (try dsimp only at hSW); go_simp; with_reducible rfl)
                try simp only [Act.put, s1, s2, s3]
                obtain ⟨z0, z1, z2, z3, f0, f1, f2, f3⟩ := cells5 hbD
                have hgl2 := hbD.lt
                have hPS : P ((((WD.setCell ⟨gD, 0, none⟩ (.int .i64 zi)).setCell ⟨gD, 1, none⟩ (.string zp)).setCell ⟨gD, 2, none⟩ (.string zc)).setCell ⟨gD, 3, none⟩ (.string zx)) := kP _ _ hPD (below5 (Below.refl _ _) hgw)
                have hbS := store5 (x0 := .int .i64 zi) (x1 := .string zp) (x2 := .string zc) (x3 := .string zx) hbD
                refine wpAnyH_ready (rs := [10]) (by kernel_rfl) (by simp) ?_
                refine AllReadyH.cons (o := { dst := none, op := Op.store 29 (Operand.tmp 17) (Operand.tmp 102), type := 0, pos := "law.go:416", after := #[{ on := 9, ground := Ground.data }, { on := 7, ground := Ground.data }, { on := 5, ground := Ground.chain }, { on := 0, ground := Ground.phase }, { on := 1, ground := Ground.phase }, { on := 2, ground := Ground.phase }, { on := 3, ground := Ground.phase }, { on := 4, ground := Ground.phase }, { on := 5, ground := Ground.phase }, { on := 6, ground := Ground.phase }, { on := 7, ground := Ground.phase }, { on := 8, ground := Ground.textOnly Departure.lateStores }, { on := 9, ground := Ground.phase }], guard := none }) rfl (fun K hK => ?_) AllReadyH.nil
                go_simp
                refine hK.out _ _ (hPS) (fun hHeld => ?_)
                clear hK K
                try simp only [Act.put, s1, s2, s3]
                clear hHeld
                refine wpAnyH_ready (rs := [11]) (by kernel_rfl) (by simp) ?_
                refine AllReadyH.cons (o := { dst := some 18, op := Op.assign (Operand.tmp 103), type := 30, pos := "law.go:416", after := #[{ on := 8, ground := Ground.data }, { on := 10, ground := Ground.chain }, { on := 0, ground := Ground.phase }, { on := 1, ground := Ground.phase }, { on := 2, ground := Ground.phase }, { on := 3, ground := Ground.phase }, { on := 4, ground := Ground.phase }, { on := 5, ground := Ground.phase }, { on := 6, ground := Ground.phase }, { on := 7, ground := Ground.phase }, { on := 8, ground := Ground.phase }, { on := 9, ground := Ground.phase }, { on := 10, ground := Ground.phase }], guard := none }) rfl (fun K hK => ?_) AllReadyH.nil
                go_simp
                refine hK.out _ _ (hPS) (fun hHeld => ?_)
                clear hK K
                try simp only [Act.put, s1, s2, s3]
                clear hHeld
                refine wpAnyH_done (by kernel_rfl) ?_ _
                clear z0 z1 z2 z3 f0 f1 f2 f3 hgl2 hPD hbD
                generalize ((((WD.setCell ⟨gD, 0, none⟩ (.int .i64 zi)).setCell ⟨gD, 1, none⟩ (.string zp)).setCell ⟨gD, 2, none⟩ (.string zc)).setCell ⟨gD, 3, none⟩ (.string zx)) = WS at hPS hbS ⊢
                go_wp2_with fail
                go_meet
                exact ⟨rfl, hPS, gD, rfl, hbS⟩
              ·
               go_simp
               refine hK.out _ _ hPDq (fun hHeld => ?_)
               clear hK K hHeld
               try simp only [Act.put, s1, s2, s3]
               have hbE : Bk (W3.alloc (.cells #[.int .i64 0, .string { data := #[] }, .string { data := #[] }, .string { data := #[] }] 29)).drew W3.heap.size 29 #[.int .i64 0, .string { data := #[] }, .string { data := #[] }, .string { data := #[] }] := Bk.new W3 29 #[.int .i64 0, .string { data := #[] }, .string { data := #[] }, .string { data := #[] }]
               have hgw : B ≤ W3.heap.size := hwl
               generalize (W3.alloc (.cells #[.int .i64 0, .string { data := #[] }, .string { data := #[] }, .string { data := #[] }] 29)).drew = WE at hPDq hbE ⊢
               generalize W3.heap.size = gD at hbE hgw ⊢
               refine wpAnyH_ready (rs := [2]) (by kernel_rfl) (by simp) ?_
               refine AllReadyH.cons (o := { dst := some 98, op := Op.buildSlice 26 0 #[], type := 26, pos := "law.go:416", after := #[], guard := none }) rfl (fun K hK => ?_) AllReadyH.nil
               go_simp
               refine hK.out _ _ ((kK _ _ hPDq (bt_new _ _))) (fun hHeld => ?_)
               clear hK K
               try simp only [Act.put, s1, s2, s3]
               clear hHeld
               have hown := World.ownsRow_made (base := WE.heap.size) (e := 9) (size := 1) WE #[] 0 (Nat.le_refl _) (Nat.zero_le _) rfl
               have hgE := hbE.lt
               refine wpAnyH_ready (rs := [4]) (by kernel_rfl) (by simp) ?_
               refine AllReadyH.cons (o := { dst := some 100, op := Op.call { callee := Callee.builtin Builtin.append, args := #[Operand.tmp 98, Operand.tmp 99], argTypes := #[26, 26] }, type := 26, pos := "law.go:416", after := #[{ on := 2, ground := Ground.data }, { on := 3, ground := Ground.data }], guard := none }) rfl (fun K hK => ?_) AllReadyH.nil
               refine step_app5 rfl _ _ rfl _ rfl A9 n c9 names rfl WE.heap.size hown Hnl.out ((fun X h => (oP.out X h).2.2.2.1) _ (kK _ _ hPDq (bt_new _ _))) Hnil9.out (by omega) (by simp) ?_
               intro A5 c5 w5 ho5 hg5
               have hr5 := rd_own5 ho5
               have hbl5 : Below WE.heap.size WE w5 := (bt_new WE (.cells #[] 9)).grown hg5 (by simp) (fun q e => by have h9 := Option.some.inj (show some WE.heap.size = some q from e); omega)
               have hP5 := kK _ _ hPDq hbl5
               have hbD5 := hbE.below hbl5 hgE
               refine hK.out _ _ hP5 (fun hHeld => ?_)
               clear hK K hHeld
               try simp only [Act.put, s1, s2, s3]
               clear hown hbl5 hg5 hbE hgE ho5
               refine wpAnyH_ready (rs := [5]) (by kernel_rfl) (by simp) ?_
               refine AllReadyH.cons (o := { dst := some 101, op := Op.call { callee := Callee.value (Operand.func 14), args := #[Operand.tmp 96, Operand.tmp 97, Operand.tmp 100], argTypes := #[33, 3, 26] }, type := 31, pos := "law.go:416", after := #[{ on := 0, ground := Ground.data }, { on := 1, ground := Ground.data }, { on := 4, ground := Ground.data }, { on := 4, ground := Ground.chain }], guard := none }) rfl (fun K hK => ?_) AllReadyH.nil
               go_simp
               go_at_call 14
               refine (H14.out _ _ _ hr5).mono ?_
               rintro e w6 ⟨rfl, hb⟩
               go_wp2_with fail
               refine hK.out _ _ (kK _ _ hP5 hb) (fun hHeld => ?_)
               clear hK K hHeld
               try simp only [Act.put, s1, s2, s3]
               have hPD := kK _ _ hP5 hb
               have hbD := hbD5.below hb hbD5.lt
               clear hb hr5 hP5 hbD5
               generalize w6 = WD at hPD hbD ⊢
               have hHeld := hPD
               refine' tk5 (i := 6) (oi := { dst := some 95, op := Op.move (Operand.tmp 101), type := 31, pos := "law.go:416", after := #[{ on := 5, ground := Ground.data }], guard := none }) rfl ?hy34 (by assumption) ?rest34
               case hy34 => (intro W hSW; (try dsimp only at hSW); go_simp; with_reducible rfl)
               try simp only [Act.put, s1, s2, s3]
               refine' tk5 (i := 7) (oi := { dst := some 102, op := Op.extract (Operand.tmp 95) 0, type := 29, pos := "law.go:416", after := #[{ on := 6, ground := Ground.data }], guard := none }) rfl ?hy35 (by assumption) ?rest35
               case hy35 => (intro W hSW; (try dsimp only at hSW); go_simp; with_reducible rfl)
               try simp only [Act.put, s1, s2, s3]
               refine' tk5 (i := 8) (oi := { dst := some 103, op := Op.extract (Operand.tmp 95) 1, type := 30, pos := "law.go:416", after := #[{ on := 6, ground := Ground.data }, { on := 10, ground := Ground.gcOnly Departure.lateStores }], guard := none }) rfl ?hy36 (by assumption) ?rest36
               case hy36 => (intro W hSW; (try dsimp only at hSW); go_simp; with_reducible rfl)
               try simp only [Act.put, s1, s2, s3]
               obtain ⟨z0, z1, z2, z3, f0, f1, f2, f3⟩ := cells5 hbD
               have hgl2 := hbD.lt
               have hPS : P ((((WD.setCell ⟨gD, 0, none⟩ (.int .i64 zi)).setCell ⟨gD, 1, none⟩ (.string zp)).setCell ⟨gD, 2, none⟩ (.string zc)).setCell ⟨gD, 3, none⟩ (.string zx)) := kP _ _ hPD (below5 (Below.refl _ _) hgw)
               have hbS := store5 (x0 := .int .i64 zi) (x1 := .string zp) (x2 := .string zc) (x3 := .string zx) hbD
               refine wpAnyH_ready (rs := [10]) (by kernel_rfl) (by simp) ?_
               refine AllReadyH.cons (o := { dst := none, op := Op.store 29 (Operand.tmp 17) (Operand.tmp 102), type := 0, pos := "law.go:416", after := #[{ on := 9, ground := Ground.data }, { on := 7, ground := Ground.data }, { on := 5, ground := Ground.chain }, { on := 0, ground := Ground.phase }, { on := 1, ground := Ground.phase }, { on := 2, ground := Ground.phase }, { on := 3, ground := Ground.phase }, { on := 4, ground := Ground.phase }, { on := 5, ground := Ground.phase }, { on := 6, ground := Ground.phase }, { on := 7, ground := Ground.phase }, { on := 8, ground := Ground.textOnly Departure.lateStores }, { on := 9, ground := Ground.phase }], guard := none }) rfl (fun K hK => ?_) AllReadyH.nil
               go_simp
               refine hK.out _ _ (hPS) (fun hHeld => ?_)
               clear hK K
               try simp only [Act.put, s1, s2, s3]
               clear hHeld
               refine wpAnyH_ready (rs := [11]) (by kernel_rfl) (by simp) ?_
               refine AllReadyH.cons (o := { dst := some 18, op := Op.assign (Operand.tmp 103), type := 30, pos := "law.go:416", after := #[{ on := 8, ground := Ground.data }, { on := 10, ground := Ground.chain }, { on := 0, ground := Ground.phase }, { on := 1, ground := Ground.phase }, { on := 2, ground := Ground.phase }, { on := 3, ground := Ground.phase }, { on := 4, ground := Ground.phase }, { on := 5, ground := Ground.phase }, { on := 6, ground := Ground.phase }, { on := 7, ground := Ground.phase }, { on := 8, ground := Ground.phase }, { on := 9, ground := Ground.phase }, { on := 10, ground := Ground.phase }], guard := none }) rfl (fun K hK => ?_) AllReadyH.nil
               go_simp
               refine hK.out _ _ (hPS) (fun hHeld => ?_)
               clear hK K
               try simp only [Act.put, s1, s2, s3]
               clear hHeld
               refine wpAnyH_done (by kernel_rfl) ?_ _
               clear z0 z1 z2 z3 f0 f1 f2 f3 hgl2 hPD hbD
               generalize ((((WD.setCell ⟨gD, 0, none⟩ (.int .i64 zi)).setCell ⟨gD, 1, none⟩ (.string zp)).setCell ⟨gD, 2, none⟩ (.string zc)).setCell ⟨gD, 3, none⟩ (.string zx)) = WS at hPS hbS ⊢
               go_wp2_with fail
               go_meet
               exact ⟨rfl, hPS, gD, rfl, hbS⟩
            case rest =>
             obtain ⟨rfl, hPc, g17, rfl, _⟩ := hcut
             clear hP
             revert hPc
             generalize wc = W4
             intro hP
             go_upto_region 15 with fail
             go_cut [19, 20] from 32 (fun s19 s20 wr => s20 = .int .i64 0 ∧ P wr ∧ ∃ A' c', s19 = .slice A' ([] : List Int).length c' ∧ Rd wr A' (([] : List Int).map (.int .i64)))
             case first =>
              as_aux_lemma =>
               have hP0 : P W4.drew := kK _ _ hP (bt_drew (Below.refl _ W4))
               have hPE : P (W4.alloc (.cells #[] 9)).drew := kK _ _ hP (bt_drew (bt_new W4 (.cells #[] 9)))
               have hownE : (W4.alloc (.cells #[] 9)).drew.ownsRow W4.heap.size 9 1 (.slice (some ⟨W4.heap.size, 0, none⟩) 0 0) 0 [] := World.ownsRow_made W4 #[] 0 (Nat.le_refl _) (Nat.zero_le _) rfl
               refine wp_region_held_drew (S := P) (by kernel_rfl) (hP0) (fun hHeld => ?_)
               refine' wpAnyH_take (i := 0) (oi := { dst := some 105, op := Op.load 33 (Operand.tmp 8), type := 33, pos := "law.go:417", after := #[], guard := none }) (v := _) rfl (by kernel_rfl) (by kernel_rfl) (by kernel_rfl) (fun _ _ _ h => h) (yieldsIf_load_mid (by kernel_rfl) _ _ rfl _ _ rfl (oc) _ (fun W h => HR.out W h) Tryz.underlying33 rfl (T.l33)) (by assumption) ?rest37
               try simp only [Act.put, s1, s2, s3]
               refine' tk5 (i := 1) (oi := { dst := some 106, op := Op.move (Operand.tmp 7), type := 3, pos := "law.go:417", after := #[], guard := none }) rfl ?hy38 (by assumption) ?rest38
               case hy38 => (intro W hSW; (try dsimp only at hSW); go_simp; with_reducible rfl)
               try simp only [Act.put, s1, s2, s3]
               refine' tk5 (i := 3) (oi := { dst := some 108, op := Op.move (Operand.tmp 9), type := 26, pos := "law.go:417", after := #[], guard := none }) rfl ?hy39 (by assumption) ?rest39
               case hy39 => (intro W hSW; (try dsimp only at hSW); go_simp; with_reducible rfl)
               try simp only [Act.put, s1, s2, s3]
               refine wpAnyH_ready (rs := [2]) (by kernel_rfl) (by simp) ?_
               refine AllReadyH.cons (o := { dst := some 107, op := Op.buildSlice 26 0 #[], type := 26, pos := "law.go:417", after := #[], guard := none }) rfl (fun K hK => ?_) AllReadyH.nil
               go_simp
               refine hK.out _ _ (hPE) (fun hHeld => ?_)
               clear hK K
               try simp only [Act.put, s1, s2, s3]
               refine wpAnyH_ready (rs := [4]) (by kernel_rfl) (by simp) ?_
               refine AllReadyH.cons (o := { dst := some 109, op := Op.call { callee := Callee.builtin Builtin.append, args := #[Operand.tmp 107, Operand.tmp 108], argTypes := #[26, 26] }, type := 26, pos := "law.go:417", after := #[{ on := 2, ground := Ground.data }, { on := 3, ground := Ground.data }], guard := none }) rfl (fun K hK => ?_) AllReadyH.nil
               refine step_app5 rfl _ _ rfl _ rfl A9 n c9 names rfl W4.heap.size hownE Hnl.out ((fun X h => (oP.out X h).2.2.2.1) _ hPE) Hnil9.out (by omega) (by simp) ?_
               intro A5 c5 w5 ho5 hg5
               have hr5 := rd_own5 ho5
               have hbl5 : Below W4.heap.size W4 w5 := (bt_drew (bt_new W4 (.cells #[] 9))).grown hg5 (by simp) (fun q e => by have h9 := Option.some.inj (show some W4.heap.size = some q from e); omega)
               have hP5 := kK _ _ hP hbl5
               refine hK.out _ _ hP5 (fun hHeld => ?_)
               clear hK K hHeld hbl5 hg5 ho5
               try simp only [Act.put, s1, s2, s3]
               refine wpAnyH_ready (rs := [5]) (by kernel_rfl) (by simp) ?_
               refine AllReadyH.cons (o := { dst := some 110, op := Op.call { callee := Callee.value (Operand.func 15), args := #[Operand.tmp 105, Operand.tmp 106, Operand.tmp 109], argTypes := #[33, 3, 26] }, type := 35, pos := "law.go:417", after := #[{ on := 0, ground := Ground.data }, { on := 1, ground := Ground.data }, { on := 4, ground := Ground.data }, { on := 4, ground := Ground.chain }], guard := none }) rfl (fun K hK => ?_) AllReadyH.nil
               go_simp
               (go_at_call 15; refine (H15.out _ _ _ hr5).mono ?_; rintro e w6 ⟨⟨v, rfl, hv⟩, hb⟩)
               go_wp2_with fail
               refine hK.out _ _ (kK _ _ hP5 hb) (fun hHeld => ?_)
               clear hK K
               try simp only [Act.put, s1, s2, s3]
               refine' tk5 (i := 6) (oi := { dst := some 104, op := Op.move (Operand.tmp 110), type := 35, pos := "law.go:417", after := #[{ on := 5, ground := Ground.data }], guard := none }) rfl ?hy40 (by assumption) ?rest40
               case hy40 => (intro W hSW; (try dsimp only at hSW); go_simp; with_reducible rfl)
               try simp only [Act.put, s1, s2, s3]
               refine' tk5 (i := 7) (oi := { dst := some 111, op := Op.extract (Operand.tmp 104) 0, type := 34, pos := "law.go:417", after := #[{ on := 6, ground := Ground.data }], guard := none }) rfl ?hy41 (by assumption) ?rest41
               case hy41 => (intro W hSW; (try dsimp only at hSW); go_simp; with_reducible rfl)
               try simp only [Act.put, s1, s2, s3]
               refine' tk5 (i := 8) (oi := { dst := some 112, op := Op.extract (Operand.tmp 104) 1, type := 30, pos := "law.go:417", after := #[{ on := 6, ground := Ground.data }, { on := 9, ground := Ground.gcOnly Departure.lateStores }], guard := none }) rfl ?hy42 (by assumption) ?rest42
               case hy42 => (intro W hSW; (try dsimp only at hSW); go_simp; with_reducible rfl)
               try simp only [Act.put, s1, s2, s3]
               refine wpAnyH_ready (rs := [9]) (by kernel_rfl) (by simp) ?_
               refine AllReadyH.cons (o := { dst := some 19, op := Op.assign (Operand.tmp 111), type := 34, pos := "law.go:417", after := #[{ on := 7, ground := Ground.data }, { on := 5, ground := Ground.chain }, { on := 0, ground := Ground.phase }, { on := 1, ground := Ground.phase }, { on := 2, ground := Ground.phase }, { on := 3, ground := Ground.phase }, { on := 4, ground := Ground.phase }, { on := 5, ground := Ground.phase }, { on := 6, ground := Ground.phase }, { on := 7, ground := Ground.phase }, { on := 8, ground := Ground.textOnly Departure.lateStores }], guard := none }) rfl (fun K hK => ?_) AllReadyH.nil
               go_simp
               refine hK.out _ _ (hHeld) (fun hHeld => ?_)
               clear hK K
               try simp only [Act.put, s1, s2, s3]
               refine wpAnyH_ready (rs := [10]) (by kernel_rfl) (by simp) ?_
               refine AllReadyH.cons (o := { dst := some 20, op := Op.assign (Operand.tmp 112), type := 30, pos := "law.go:417", after := #[{ on := 8, ground := Ground.data }, { on := 9, ground := Ground.chain }, { on := 0, ground := Ground.phase }, { on := 1, ground := Ground.phase }, { on := 2, ground := Ground.phase }, { on := 3, ground := Ground.phase }, { on := 4, ground := Ground.phase }, { on := 5, ground := Ground.phase }, { on := 6, ground := Ground.phase }, { on := 7, ground := Ground.phase }, { on := 8, ground := Ground.phase }, { on := 9, ground := Ground.phase }], guard := none }) rfl (fun K hK => ?_) AllReadyH.nil
               go_simp
               refine hK.out _ _ (hHeld) (fun hHeld => ?_)
               clear hK K
               try simp only [Act.put, s1, s2, s3]
               refine wpAnyH_done (by kernel_rfl) ?_ _
               go_wp2_with fail
               go_meet
               obtain ⟨_, A6, c6, rfl, hr6⟩ := hv
               exact ⟨rfl, hHeld, A6, c6, rfl, hr6⟩
             case rest =>
              obtain ⟨rfl, hPc, A19, c19, rfl, _⟩ := hcut
              clear hP
              revert hPc
              generalize wc = W5
              intro hP
              as_aux_lemma =>
               go_wp2_with (go_at_call 32; refine (sameWords_any names (seqF o i n) A9 A10 n n c9 c10 _ Hnl.out Hsl.out (by omega) (oP.out _ hP).2.2.2.1 (oP.out _ hP).2.2.2.2).mono ?_; rintro e wy ⟨rfl, q, rfl⟩)
               go_ret
               exact ⟨ret_bool (decide_eq_true He.out), bt_drewN (oP.out _ hP).1 q⟩
          ·
           have H14 := Lib.hid (T.hd names n (j : Int) p cc nx 0 Hnl.out (by omega) hd)
           have H15 := Lib.hid (T.hi names n ((j : Int) :: I) 0 Hnl.out (by omega) hi2)
           rw [Hnl.out] at hj hp
           have Hp := Lib.hid hp; have Hc := Lib.hid hc; have H1 := Lib.hid h1; have H2 := Lib.hid h2; have Hs := Lib.hid hs; have H3 := Lib.hid h3
           have hne' := tl_ne hne
           clear hd hi2 HT1 hp hc h1 h2 hs h3 HTP1
           as_aux_lemma =>
            go_cut [17, 18] from 32 (fun s17 s18 wr => s18 = .int .i64 0 ∧ P wr ∧ ∃ g, s17 = .pointer (some ⟨g, 0, none⟩) ∧ Bk wr g 29 #[.int .i64 j, .string p, .string cc, .string nx])
            case first =>
             as_aux_lemma =>
              have hP0 : P W3.drew := kK _ _ hP (bt_drew (Below.refl _ W3))
              have hPE : P (W3.alloc (.cells #[] 9)).drew := kK _ _ hP (bt_drew (bt_new W3 (.cells #[] 9)))
              have hPDq : P (W3.alloc (.cells #[.int .i64 0, .string { data := #[] }, .string { data := #[] }, .string { data := #[] }] 29)).drew := kK _ _ hP (bt_drew (bt_new W3 _))
              have hPED : P ((W3.alloc (.cells #[] 9)).alloc (.cells #[.int .i64 0, .string { data := #[] }, .string { data := #[] }, .string { data := #[] }] 29)).drew := kK _ _ hP (bt_drew (bt_alloc (bt_new W3 _) _))
              have hownE : (W3.alloc (.cells #[] 9)).drew.ownsRow W3.heap.size 9 1 (.slice (some ⟨W3.heap.size, 0, none⟩) 0 0) 0 [] := World.ownsRow_made W3 #[] 0 (Nat.le_refl _) (Nat.zero_le _) rfl
              have hownED : ((W3.alloc (.cells #[] 9)).alloc (.cells #[.int .i64 0, .string { data := #[] }, .string { data := #[] }, .string { data := #[] }] 29)).drew.ownsRow W3.heap.size 9 1 (.slice (some ⟨W3.heap.size, 0, none⟩) 0 0) 0 [] := World.ownsRow.alloc (World.ownsRow_made W3 #[] 0 (Nat.le_refl _) (Nat.zero_le _) rfl) _
              have hwl : B ≤ W3.heap.size := hPB _ hP
              refine wp_region_held_drew (S := P) (by kernel_rfl) (hP0) (fun hHeld => ?_)
              refine' wpAnyH_take (i := 0) (oi := { dst := some 96, op := Op.load 33 (Operand.tmp 8), type := 33, pos := "law.go:416", after := #[], guard := none }) (v := _) rfl (by kernel_rfl) (by kernel_rfl) (by kernel_rfl) (fun _ _ _ h => h) (yieldsIf_load_mid (by kernel_rfl) _ _ rfl _ _ rfl (oc) _ (fun W h => HR.out W h) Tryz.underlying33 rfl (T.l33)) (by assumption) ?rest43
              try simp only [Act.put, s1, s2, s3]
              refine' tk5 (i := 1) (oi := { dst := some 97, op := Op.move (Operand.tmp 7), type := 3, pos := "law.go:416", after := #[], guard := none }) rfl ?hy44 (by assumption) ?rest44
              case hy44 => (intro W hSW; (try dsimp only at hSW); go_simp; with_reducible rfl)
              try simp only [Act.put, s1, s2, s3]
              refine' tk5 (i := 3) (oi := { dst := some 99, op := Op.move (Operand.tmp 9), type := 26, pos := "law.go:416", after := #[], guard := none }) rfl ?hy45 (by assumption) ?rest45
              case hy45 => (intro W hSW; (try dsimp only at hSW); go_simp; with_reducible rfl)
              try simp only [Act.put, s1, s2, s3]
              refine wpAnyH_ready (rs := [2, 9]) (by kernel_rfl) (by simp) ?_
              refine AllReadyH.cons (o := { dst := some 98, op := Op.buildSlice 26 0 #[], type := 26, pos := "law.go:416", after := #[], guard := none }) rfl (fun K hK => ?_) (AllReadyH.cons (o := { dst := some 17, op := Op.alloc 29, type := 0, pos := "law.go:416", after := #[], guard := none }) rfl (fun K hK => ?_) AllReadyH.nil)
              ·
               go_simp
               refine hK.out _ _ hPE (fun hHeld => ?_)
               clear hK K hHeld
               try simp only [Act.put, s1, s2, s3]
               refine wpAnyH_ready (rs := [4, 9]) (by kernel_rfl) (by simp) ?_
               refine AllReadyH.cons (o := { dst := some 100, op := Op.call { callee := Callee.builtin Builtin.append, args := #[Operand.tmp 98, Operand.tmp 99], argTypes := #[26, 26] }, type := 26, pos := "law.go:416", after := #[{ on := 2, ground := Ground.data }, { on := 3, ground := Ground.data }], guard := none }) rfl (fun K hK => ?_) (AllReadyH.cons (o := { dst := some 17, op := Op.alloc 29, type := 0, pos := "law.go:416", after := #[], guard := none }) rfl (fun K hK => ?_) AllReadyH.nil)
               ·
                refine step_app5 rfl _ _ rfl _ rfl A9 n c9 names rfl W3.heap.size hownE Hnl.out ((fun X h => (oP.out X h).2.2.2.1) _ hPE) Hnil9.out (by omega) (by simp) ?_
                intro A5 c5 w5 ho5 hg5
                have hr5 := rd_own5 ho5
                have hbl5 : Below W3.heap.size W3 w5 := (bt_drew (bt_new W3 (.cells #[] 9))).grown hg5 (by simp) (fun q e => by have h9 := Option.some.inj (show some W3.heap.size = some q from e); omega)
                have hP5 := kK _ _ hP hbl5
                refine hK.out _ _ hP5 (fun hHeld => ?_)
                clear hK K hHeld hbl5 hg5 ho5
                try simp only [Act.put, s1, s2, s3]
                refine wpAnyH_ready (rs := [5, 9]) (by kernel_rfl) (by simp) ?_
                refine AllReadyH.cons (o := { dst := some 101, op := Op.call { callee := Callee.value (Operand.func 14), args := #[Operand.tmp 96, Operand.tmp 97, Operand.tmp 100], argTypes := #[33, 3, 26] }, type := 31, pos := "law.go:416", after := #[{ on := 0, ground := Ground.data }, { on := 1, ground := Ground.data }, { on := 4, ground := Ground.data }, { on := 4, ground := Ground.chain }], guard := none }) rfl (fun K hK => ?_) (AllReadyH.cons (o := { dst := some 17, op := Op.alloc 29, type := 0, pos := "law.go:416", after := #[], guard := none }) rfl (fun K hK => ?_) AllReadyH.nil)
                ·
                 go_simp
                 go_at_call 14
                 refine (H14.out _ _ _ hr5).mono ?_
                 rintro e w6 ⟨rfl, hb⟩
                 go_wp2_with fail
                 refine hK.out _ _ (kK _ _ hP5 hb) (fun hHeld => ?_)
                 clear hK K hHeld
                 try simp only [Act.put, s1, s2, s3]
                 have hP6 := kK _ _ hP5 hb
                 clear hb hr5 hP5
                 have hHeld := hP6
                 refine' tk5 (i := 6) (oi := { dst := some 95, op := Op.move (Operand.tmp 101), type := 31, pos := "law.go:416", after := #[{ on := 5, ground := Ground.data }], guard := none }) rfl ?hy46 (by assumption) ?rest46
                 case hy46 => (intro W hSW; (try dsimp only at hSW); go_simp; with_reducible rfl)
                 try simp only [Act.put, s1, s2, s3]
                 refine' tk5 (i := 7) (oi := { dst := some 102, op := Op.extract (Operand.tmp 95) 0, type := 29, pos := "law.go:416", after := #[{ on := 6, ground := Ground.data }], guard := none }) rfl ?hy47 (by assumption) ?rest47
                 case hy47 => (intro W hSW; (try dsimp only at hSW); go_simp; with_reducible rfl)
                 try simp only [Act.put, s1, s2, s3]
                 refine' tk5 (i := 8) (oi := { dst := some 103, op := Op.extract (Operand.tmp 95) 1, type := 30, pos := "law.go:416", after := #[{ on := 6, ground := Ground.data }, { on := 10, ground := Ground.gcOnly Departure.lateStores }], guard := none }) rfl ?hy48 (by assumption) ?rest48
                 case hy48 => (intro W hSW; (try dsimp only at hSW); go_simp; with_reducible rfl)
                 try simp only [Act.put, s1, s2, s3]
                 clear hHeld
                 refine wpAnyH_ready (rs := [9]) (by kernel_rfl) (by simp) ?_
                 refine AllReadyH.cons (o := { dst := some 17, op := Op.alloc 29, type := 0, pos := "law.go:416", after := #[], guard := none }) rfl (fun K hK => ?_) AllReadyH.nil
                 go_simp
                 refine hK.out _ _ ((kK _ _ hP6 (bt_new _ _))) (fun hHeld => ?_)
                 clear hK K
                 try simp only [Act.put, s1, s2, s3]
                 clear hHeld
                 have hPD := kK _ _ hP6 (bt_new w6 (.cells #[.int .i64 0, .string { data := #[] }, .string { data := #[] }, .string { data := #[] }] 29))
                 have hbD := Bk.new w6 29 #[.int .i64 0, .string { data := #[] }, .string { data := #[] }, .string { data := #[] }]
                 have hgw : B ≤ w6.heap.size := hPB _ hP6
                 generalize (w6.alloc (.cells #[.int .i64 0, .string { data := #[] }, .string { data := #[] }, .string { data := #[] }] 29)) = WD at hPD hbD ⊢
                 generalize w6.heap.size = gD at hbD hgw ⊢
                 clear hP6
                 have hHeld := hPD
                 obtain ⟨z0, z1, z2, z3, f0, f1, f2, f3⟩ := cells5 hbD
                 have hgl2 := hbD.lt
                 have hPS : P ((((WD.setCell ⟨gD, 0, none⟩ (.int .i64 (j : Int))).setCell ⟨gD, 1, none⟩ (.string p)).setCell ⟨gD, 2, none⟩ (.string cc)).setCell ⟨gD, 3, none⟩ (.string nx)) := kP _ _ hPD (below5 (Below.refl _ _) hgw)
                 have hbS := store5 (x0 := .int .i64 (j : Int)) (x1 := .string p) (x2 := .string cc) (x3 := .string nx) hbD
                 refine wpAnyH_ready (rs := [10]) (by kernel_rfl) (by simp) ?_
                 refine AllReadyH.cons (o := { dst := none, op := Op.store 29 (Operand.tmp 17) (Operand.tmp 102), type := 0, pos := "law.go:416", after := #[{ on := 9, ground := Ground.data }, { on := 7, ground := Ground.data }, { on := 5, ground := Ground.chain }, { on := 0, ground := Ground.phase }, { on := 1, ground := Ground.phase }, { on := 2, ground := Ground.phase }, { on := 3, ground := Ground.phase }, { on := 4, ground := Ground.phase }, { on := 5, ground := Ground.phase }, { on := 6, ground := Ground.phase }, { on := 7, ground := Ground.phase }, { on := 8, ground := Ground.textOnly Departure.lateStores }, { on := 9, ground := Ground.phase }], guard := none }) rfl (fun K hK => ?_) AllReadyH.nil
                 go_simp
                 refine hK.out _ _ (hPS) (fun hHeld => ?_)
                 clear hK K
                 try simp only [Act.put, s1, s2, s3]
                 clear hHeld
                 refine wpAnyH_ready (rs := [11]) (by kernel_rfl) (by simp) ?_
                 refine AllReadyH.cons (o := { dst := some 18, op := Op.assign (Operand.tmp 103), type := 30, pos := "law.go:416", after := #[{ on := 8, ground := Ground.data }, { on := 10, ground := Ground.chain }, { on := 0, ground := Ground.phase }, { on := 1, ground := Ground.phase }, { on := 2, ground := Ground.phase }, { on := 3, ground := Ground.phase }, { on := 4, ground := Ground.phase }, { on := 5, ground := Ground.phase }, { on := 6, ground := Ground.phase }, { on := 7, ground := Ground.phase }, { on := 8, ground := Ground.phase }, { on := 9, ground := Ground.phase }, { on := 10, ground := Ground.phase }], guard := none }) rfl (fun K hK => ?_) AllReadyH.nil
                 go_simp
                 refine hK.out _ _ (hPS) (fun hHeld => ?_)
                 clear hK K
                 try simp only [Act.put, s1, s2, s3]
                 clear hHeld
                 refine wpAnyH_done (by kernel_rfl) ?_ _
                 clear z0 z1 z2 z3 f0 f1 f2 f3 hgl2 hPD hbD
                 generalize ((((WD.setCell ⟨gD, 0, none⟩ (.int .i64 (j : Int))).setCell ⟨gD, 1, none⟩ (.string p)).setCell ⟨gD, 2, none⟩ (.string cc)).setCell ⟨gD, 3, none⟩ (.string nx)) = WS at hPS hbS ⊢
                 go_wp2_with fail
                 go_meet
                 exact ⟨rfl, hPS, gD, rfl, hbS⟩
                ·
                 go_simp
                 refine hK.out _ _ (kK _ _ hP5 (bt_new _ _)) (fun hHeld => ?_)
                 clear hK K hHeld
                 try simp only [Act.put, s1, s2, s3]
                 have hPD5 := kK _ _ hP5 (bt_new w5 (.cells #[.int .i64 0, .string { data := #[] }, .string { data := #[] }, .string { data := #[] }] 29))
                 have hbD5 := Bk.new w5 29 #[.int .i64 0, .string { data := #[] }, .string { data := #[] }, .string { data := #[] }]
                 have hgw : B ≤ w5.heap.size := hPB _ hP5
                 have hr5' := hr5.below (bt_new w5 (.cells #[.int .i64 0, .string { data := #[] }, .string { data := #[] }, .string { data := #[] }] 29))
                 generalize (w5.alloc (.cells #[.int .i64 0, .string { data := #[] }, .string { data := #[] }, .string { data := #[] }] 29)) = WE at hPD5 hbD5 hr5' ⊢
                 generalize w5.heap.size = gD at hbD5 hgw ⊢
                 clear hP5 hr5
                 refine wpAnyH_ready (rs := [5]) (by kernel_rfl) (by simp) ?_
                 refine AllReadyH.cons (o := { dst := some 101, op := Op.call { callee := Callee.value (Operand.func 14), args := #[Operand.tmp 96, Operand.tmp 97, Operand.tmp 100], argTypes := #[33, 3, 26] }, type := 31, pos := "law.go:416", after := #[{ on := 0, ground := Ground.data }, { on := 1, ground := Ground.data }, { on := 4, ground := Ground.data }, { on := 4, ground := Ground.chain }], guard := none }) rfl (fun K hK => ?_) AllReadyH.nil
                 go_simp
                 go_at_call 14
                 refine (H14.out _ _ _ hr5').mono ?_
                 rintro e w6 ⟨rfl, hb⟩
                 go_wp2_with fail
                 refine hK.out _ _ (kK _ _ hPD5 hb) (fun hHeld => ?_)
                 clear hK K hHeld
                 try simp only [Act.put, s1, s2, s3]
                 have hPD := kK _ _ hPD5 hb
                 have hbD := hbD5.below hb hbD5.lt
                 clear hb hr5' hPD5 hbD5
                 generalize w6 = WD at hPD hbD ⊢
                 have hHeld := hPD
                 refine' tk5 (i := 6) (oi := { dst := some 95, op := Op.move (Operand.tmp 101), type := 31, pos := "law.go:416", after := #[{ on := 5, ground := Ground.data }], guard := none }) rfl ?hy49 (by assumption) ?rest49
                 case hy49 => (intro W hSW; (try dsimp only at hSW); go_simp; with_reducible rfl)
                 try simp only [Act.put, s1, s2, s3]
                 refine' tk5 (i := 7) (oi := { dst := some 102, op := Op.extract (Operand.tmp 95) 0, type := 29, pos := "law.go:416", after := #[{ on := 6, ground := Ground.data }], guard := none }) rfl ?hy50 (by assumption) ?rest50
                 case hy50 => (intro W hSW; (try dsimp only at hSW); go_simp; with_reducible rfl)
                 try simp only [Act.put, s1, s2, s3]
                 refine' tk5 (i := 8) (oi := { dst := some 103, op := Op.extract (Operand.tmp 95) 1, type := 30, pos := "law.go:416", after := #[{ on := 6, ground := Ground.data }, { on := 10, ground := Ground.gcOnly Departure.lateStores }], guard := none }) rfl ?hy51 (by assumption) ?rest51
                 case hy51 => (intro W hSW; (try dsimp only at hSW); go_simp; with_reducible rfl)
                 try simp only [Act.put, s1, s2, s3]
                 obtain ⟨z0, z1, z2, z3, f0, f1, f2, f3⟩ := cells5 hbD
                 have hgl2 := hbD.lt
                 have hPS : P ((((WD.setCell ⟨gD, 0, none⟩ (.int .i64 (j : Int))).setCell ⟨gD, 1, none⟩ (.string p)).setCell ⟨gD, 2, none⟩ (.string cc)).setCell ⟨gD, 3, none⟩ (.string nx)) := kP _ _ hPD (below5 (Below.refl _ _) hgw)
                 have hbS := store5 (x0 := .int .i64 (j : Int)) (x1 := .string p) (x2 := .string cc) (x3 := .string nx) hbD
                 refine wpAnyH_ready (rs := [10]) (by kernel_rfl) (by simp) ?_
                 refine AllReadyH.cons (o := { dst := none, op := Op.store 29 (Operand.tmp 17) (Operand.tmp 102), type := 0, pos := "law.go:416", after := #[{ on := 9, ground := Ground.data }, { on := 7, ground := Ground.data }, { on := 5, ground := Ground.chain }, { on := 0, ground := Ground.phase }, { on := 1, ground := Ground.phase }, { on := 2, ground := Ground.phase }, { on := 3, ground := Ground.phase }, { on := 4, ground := Ground.phase }, { on := 5, ground := Ground.phase }, { on := 6, ground := Ground.phase }, { on := 7, ground := Ground.phase }, { on := 8, ground := Ground.textOnly Departure.lateStores }, { on := 9, ground := Ground.phase }], guard := none }) rfl (fun K hK => ?_) AllReadyH.nil
                 go_simp
                 refine hK.out _ _ (hPS) (fun hHeld => ?_)
                 clear hK K
                 try simp only [Act.put, s1, s2, s3]
                 clear hHeld
                 refine wpAnyH_ready (rs := [11]) (by kernel_rfl) (by simp) ?_
                 refine AllReadyH.cons (o := { dst := some 18, op := Op.assign (Operand.tmp 103), type := 30, pos := "law.go:416", after := #[{ on := 8, ground := Ground.data }, { on := 10, ground := Ground.chain }, { on := 0, ground := Ground.phase }, { on := 1, ground := Ground.phase }, { on := 2, ground := Ground.phase }, { on := 3, ground := Ground.phase }, { on := 4, ground := Ground.phase }, { on := 5, ground := Ground.phase }, { on := 6, ground := Ground.phase }, { on := 7, ground := Ground.phase }, { on := 8, ground := Ground.phase }, { on := 9, ground := Ground.phase }, { on := 10, ground := Ground.phase }], guard := none }) rfl (fun K hK => ?_) AllReadyH.nil
                 go_simp
                 refine hK.out _ _ (hPS) (fun hHeld => ?_)
                 clear hK K
                 try simp only [Act.put, s1, s2, s3]
                 clear hHeld
                 refine wpAnyH_done (by kernel_rfl) ?_ _
                 clear z0 z1 z2 z3 f0 f1 f2 f3 hgl2 hPD hbD
                 generalize ((((WD.setCell ⟨gD, 0, none⟩ (.int .i64 (j : Int))).setCell ⟨gD, 1, none⟩ (.string p)).setCell ⟨gD, 2, none⟩ (.string cc)).setCell ⟨gD, 3, none⟩ (.string nx)) = WS at hPS hbS ⊢
                 go_wp2_with fail
                 go_meet
                 exact ⟨rfl, hPS, gD, rfl, hbS⟩
               ·
                go_simp
                refine hK.out _ _ hPED (fun hHeld => ?_)
                clear hK K hHeld
                try simp only [Act.put, s1, s2, s3]
                have hbE : Bk ((W3.alloc (.cells #[] 9)).alloc (.cells #[.int .i64 0, .string { data := #[] }, .string { data := #[] }, .string { data := #[] }] 29)).drew (W3.heap.size + 1) 29 #[.int .i64 0, .string { data := #[] }, .string { data := #[] }, .string { data := #[] }] := by
                 have := Bk.new (W3.alloc (.cells #[] 9)) 29 #[.int .i64 0, .string { data := #[] }, .string { data := #[] }, .string { data := #[] }]
                 rw [World.size_alloc] at this
                 exact this
                have hgw : B ≤ W3.heap.size + 1 := by omega
                refine wpAnyH_ready (rs := [4]) (by kernel_rfl) (by simp) ?_
                refine AllReadyH.cons (o := { dst := some 100, op := Op.call { callee := Callee.builtin Builtin.append, args := #[Operand.tmp 98, Operand.tmp 99], argTypes := #[26, 26] }, type := 26, pos := "law.go:416", after := #[{ on := 2, ground := Ground.data }, { on := 3, ground := Ground.data }], guard := none }) rfl (fun K hK => ?_) AllReadyH.nil
                refine step_app5 rfl _ _ rfl _ rfl A9 n c9 names rfl W3.heap.size hownED Hnl.out ((fun X h => (oP.out X h).2.2.2.1) _ hPED) Hnil9.out (by omega) (by simp; omega) ?_
                intro A5 c5 w5 ho5 hg5
                have hr5 := rd_own5 ho5
                have hbl5 : Below W3.heap.size W3 w5 := (bt_drew (bt_alloc (bt_new W3 (.cells #[] 9)) (.cells #[.int .i64 0, .string { data := #[] }, .string { data := #[] }, .string { data := #[] }] 29))).grown hg5 (by simp; omega) (fun q e => by have h9 := Option.some.inj (show some W3.heap.size = some q from e); omega)
                have hP5 := kK _ _ hP hbl5
                have hbD5 : Bk w5 (W3.heap.size + 1) 29 #[.int .i64 0, .string { data := #[] }, .string { data := #[] }, .string { data := #[] }] := (hg5.block _ hbE.lt (fun e => by have h9 := Option.some.inj (show some (W3.heap.size + 1) = some W3.heap.size from e); omega)).trans hbE
                refine hK.out _ _ hP5 (fun hHeld => ?_)
                clear hK K hHeld
                try simp only [Act.put, s1, s2, s3]
                clear hbE hbl5 hg5 ho5
                generalize W3.heap.size + 1 = gD at hbD5 hgw ⊢
                refine wpAnyH_ready (rs := [5]) (by kernel_rfl) (by simp) ?_
                refine AllReadyH.cons (o := { dst := some 101, op := Op.call { callee := Callee.value (Operand.func 14), args := #[Operand.tmp 96, Operand.tmp 97, Operand.tmp 100], argTypes := #[33, 3, 26] }, type := 31, pos := "law.go:416", after := #[{ on := 0, ground := Ground.data }, { on := 1, ground := Ground.data }, { on := 4, ground := Ground.data }, { on := 4, ground := Ground.chain }], guard := none }) rfl (fun K hK => ?_) AllReadyH.nil
                go_simp
                go_at_call 14
                refine (H14.out _ _ _ hr5).mono ?_
                rintro e w6 ⟨rfl, hb⟩
                go_wp2_with fail
                refine hK.out _ _ (kK _ _ hP5 hb) (fun hHeld => ?_)
                clear hK K hHeld
                try simp only [Act.put, s1, s2, s3]
                have hPD := kK _ _ hP5 hb
                have hbD := hbD5.below hb hbD5.lt
                clear hb hr5 hP5 hbD5
                generalize w6 = WD at hPD hbD ⊢
                have hHeld := hPD
                refine' tk5 (i := 6) (oi := { dst := some 95, op := Op.move (Operand.tmp 101), type := 31, pos := "law.go:416", after := #[{ on := 5, ground := Ground.data }], guard := none }) rfl ?hy52 (by assumption) ?rest52
                case hy52 => (intro W hSW; (try dsimp only at hSW); go_simp; with_reducible rfl)
                try simp only [Act.put, s1, s2, s3]
                refine' tk5 (i := 7) (oi := { dst := some 102, op := Op.extract (Operand.tmp 95) 0, type := 29, pos := "law.go:416", after := #[{ on := 6, ground := Ground.data }], guard := none }) rfl ?hy53 (by assumption) ?rest53
                case hy53 => (intro W hSW; (try dsimp only at hSW); go_simp; with_reducible rfl)
                try simp only [Act.put, s1, s2, s3]
                refine' tk5 (i := 8) (oi := { dst := some 103, op := Op.extract (Operand.tmp 95) 1, type := 30, pos := "law.go:416", after := #[{ on := 6, ground := Ground.data }, { on := 10, ground := Ground.gcOnly Departure.lateStores }], guard := none }) rfl ?hy54 (by assumption) ?rest54
                case hy54 => (intro W hSW; (try dsimp only at hSW); go_simp; with_reducible rfl)
                try simp only [Act.put, s1, s2, s3]
                obtain ⟨z0, z1, z2, z3, f0, f1, f2, f3⟩ := cells5 hbD
                have hgl2 := hbD.lt
                have hPS : P ((((WD.setCell ⟨gD, 0, none⟩ (.int .i64 (j : Int))).setCell ⟨gD, 1, none⟩ (.string p)).setCell ⟨gD, 2, none⟩ (.string cc)).setCell ⟨gD, 3, none⟩ (.string nx)) := kP _ _ hPD (below5 (Below.refl _ _) hgw)
                have hbS := store5 (x0 := .int .i64 (j : Int)) (x1 := .string p) (x2 := .string cc) (x3 := .string nx) hbD
                refine wpAnyH_ready (rs := [10]) (by kernel_rfl) (by simp) ?_
                refine AllReadyH.cons (o := { dst := none, op := Op.store 29 (Operand.tmp 17) (Operand.tmp 102), type := 0, pos := "law.go:416", after := #[{ on := 9, ground := Ground.data }, { on := 7, ground := Ground.data }, { on := 5, ground := Ground.chain }, { on := 0, ground := Ground.phase }, { on := 1, ground := Ground.phase }, { on := 2, ground := Ground.phase }, { on := 3, ground := Ground.phase }, { on := 4, ground := Ground.phase }, { on := 5, ground := Ground.phase }, { on := 6, ground := Ground.phase }, { on := 7, ground := Ground.phase }, { on := 8, ground := Ground.textOnly Departure.lateStores }, { on := 9, ground := Ground.phase }], guard := none }) rfl (fun K hK => ?_) AllReadyH.nil
                go_simp
                refine hK.out _ _ (hPS) (fun hHeld => ?_)
                clear hK K
                try simp only [Act.put, s1, s2, s3]
                clear hHeld
                refine wpAnyH_ready (rs := [11]) (by kernel_rfl) (by simp) ?_
                refine AllReadyH.cons (o := { dst := some 18, op := Op.assign (Operand.tmp 103), type := 30, pos := "law.go:416", after := #[{ on := 8, ground := Ground.data }, { on := 10, ground := Ground.chain }, { on := 0, ground := Ground.phase }, { on := 1, ground := Ground.phase }, { on := 2, ground := Ground.phase }, { on := 3, ground := Ground.phase }, { on := 4, ground := Ground.phase }, { on := 5, ground := Ground.phase }, { on := 6, ground := Ground.phase }, { on := 7, ground := Ground.phase }, { on := 8, ground := Ground.phase }, { on := 9, ground := Ground.phase }, { on := 10, ground := Ground.phase }], guard := none }) rfl (fun K hK => ?_) AllReadyH.nil
                go_simp
                refine hK.out _ _ (hPS) (fun hHeld => ?_)
                clear hK K
                try simp only [Act.put, s1, s2, s3]
                clear hHeld
                refine wpAnyH_done (by kernel_rfl) ?_ _
                clear z0 z1 z2 z3 f0 f1 f2 f3 hgl2 hPD hbD
                generalize ((((WD.setCell ⟨gD, 0, none⟩ (.int .i64 (j : Int))).setCell ⟨gD, 1, none⟩ (.string p)).setCell ⟨gD, 2, none⟩ (.string cc)).setCell ⟨gD, 3, none⟩ (.string nx)) = WS at hPS hbS ⊢
                go_wp2_with fail
                go_meet
                exact ⟨rfl, hPS, gD, rfl, hbS⟩
              ·
               go_simp
               refine hK.out _ _ hPDq (fun hHeld => ?_)
               clear hK K hHeld
               try simp only [Act.put, s1, s2, s3]
               have hbE : Bk (W3.alloc (.cells #[.int .i64 0, .string { data := #[] }, .string { data := #[] }, .string { data := #[] }] 29)).drew W3.heap.size 29 #[.int .i64 0, .string { data := #[] }, .string { data := #[] }, .string { data := #[] }] := Bk.new W3 29 #[.int .i64 0, .string { data := #[] }, .string { data := #[] }, .string { data := #[] }]
               have hgw : B ≤ W3.heap.size := hwl
               generalize (W3.alloc (.cells #[.int .i64 0, .string { data := #[] }, .string { data := #[] }, .string { data := #[] }] 29)).drew = WE at hPDq hbE ⊢
               generalize W3.heap.size = gD at hbE hgw ⊢
               refine wpAnyH_ready (rs := [2]) (by kernel_rfl) (by simp) ?_
               refine AllReadyH.cons (o := { dst := some 98, op := Op.buildSlice 26 0 #[], type := 26, pos := "law.go:416", after := #[], guard := none }) rfl (fun K hK => ?_) AllReadyH.nil
               go_simp
               refine hK.out _ _ ((kK _ _ hPDq (bt_new _ _))) (fun hHeld => ?_)
               clear hK K
               try simp only [Act.put, s1, s2, s3]
               clear hHeld
               have hown := World.ownsRow_made (base := WE.heap.size) (e := 9) (size := 1) WE #[] 0 (Nat.le_refl _) (Nat.zero_le _) rfl
               have hgE := hbE.lt
               refine wpAnyH_ready (rs := [4]) (by kernel_rfl) (by simp) ?_
               refine AllReadyH.cons (o := { dst := some 100, op := Op.call { callee := Callee.builtin Builtin.append, args := #[Operand.tmp 98, Operand.tmp 99], argTypes := #[26, 26] }, type := 26, pos := "law.go:416", after := #[{ on := 2, ground := Ground.data }, { on := 3, ground := Ground.data }], guard := none }) rfl (fun K hK => ?_) AllReadyH.nil
               refine step_app5 rfl _ _ rfl _ rfl A9 n c9 names rfl WE.heap.size hown Hnl.out ((fun X h => (oP.out X h).2.2.2.1) _ (kK _ _ hPDq (bt_new _ _))) Hnil9.out (by omega) (by simp) ?_
               intro A5 c5 w5 ho5 hg5
               have hr5 := rd_own5 ho5
               have hbl5 : Below WE.heap.size WE w5 := (bt_new WE (.cells #[] 9)).grown hg5 (by simp) (fun q e => by have h9 := Option.some.inj (show some WE.heap.size = some q from e); omega)
               have hP5 := kK _ _ hPDq hbl5
               have hbD5 := hbE.below hbl5 hgE
               refine hK.out _ _ hP5 (fun hHeld => ?_)
               clear hK K hHeld
               try simp only [Act.put, s1, s2, s3]
               clear hown hbl5 hg5 hbE hgE ho5
               refine wpAnyH_ready (rs := [5]) (by kernel_rfl) (by simp) ?_
               refine AllReadyH.cons (o := { dst := some 101, op := Op.call { callee := Callee.value (Operand.func 14), args := #[Operand.tmp 96, Operand.tmp 97, Operand.tmp 100], argTypes := #[33, 3, 26] }, type := 31, pos := "law.go:416", after := #[{ on := 0, ground := Ground.data }, { on := 1, ground := Ground.data }, { on := 4, ground := Ground.data }, { on := 4, ground := Ground.chain }], guard := none }) rfl (fun K hK => ?_) AllReadyH.nil
               go_simp
               go_at_call 14
               refine (H14.out _ _ _ hr5).mono ?_
               rintro e w6 ⟨rfl, hb⟩
               go_wp2_with fail
               refine hK.out _ _ (kK _ _ hP5 hb) (fun hHeld => ?_)
               clear hK K hHeld
               try simp only [Act.put, s1, s2, s3]
               have hPD := kK _ _ hP5 hb
               have hbD := hbD5.below hb hbD5.lt
               clear hb hr5 hP5 hbD5
               generalize w6 = WD at hPD hbD ⊢
               have hHeld := hPD
               refine' tk5 (i := 6) (oi := { dst := some 95, op := Op.move (Operand.tmp 101), type := 31, pos := "law.go:416", after := #[{ on := 5, ground := Ground.data }], guard := none }) rfl ?hy55 (by assumption) ?rest55
               case hy55 => (intro W hSW; (try dsimp only at hSW); go_simp; with_reducible rfl)
               try simp only [Act.put, s1, s2, s3]
               refine' tk5 (i := 7) (oi := { dst := some 102, op := Op.extract (Operand.tmp 95) 0, type := 29, pos := "law.go:416", after := #[{ on := 6, ground := Ground.data }], guard := none }) rfl ?hy56 (by assumption) ?rest56
               case hy56 => (intro W hSW; (try dsimp only at hSW); go_simp; with_reducible rfl)
               try simp only [Act.put, s1, s2, s3]
               refine' tk5 (i := 8) (oi := { dst := some 103, op := Op.extract (Operand.tmp 95) 1, type := 30, pos := "law.go:416", after := #[{ on := 6, ground := Ground.data }, { on := 10, ground := Ground.gcOnly Departure.lateStores }], guard := none }) rfl ?hy57 (by assumption) ?rest57
               case hy57 => (intro W hSW; (try dsimp only at hSW); go_simp; with_reducible rfl)
               try simp only [Act.put, s1, s2, s3]
               obtain ⟨z0, z1, z2, z3, f0, f1, f2, f3⟩ := cells5 hbD
               have hgl2 := hbD.lt
               have hPS : P ((((WD.setCell ⟨gD, 0, none⟩ (.int .i64 (j : Int))).setCell ⟨gD, 1, none⟩ (.string p)).setCell ⟨gD, 2, none⟩ (.string cc)).setCell ⟨gD, 3, none⟩ (.string nx)) := kP _ _ hPD (below5 (Below.refl _ _) hgw)
               have hbS := store5 (x0 := .int .i64 (j : Int)) (x1 := .string p) (x2 := .string cc) (x3 := .string nx) hbD
               refine wpAnyH_ready (rs := [10]) (by kernel_rfl) (by simp) ?_
               refine AllReadyH.cons (o := { dst := none, op := Op.store 29 (Operand.tmp 17) (Operand.tmp 102), type := 0, pos := "law.go:416", after := #[{ on := 9, ground := Ground.data }, { on := 7, ground := Ground.data }, { on := 5, ground := Ground.chain }, { on := 0, ground := Ground.phase }, { on := 1, ground := Ground.phase }, { on := 2, ground := Ground.phase }, { on := 3, ground := Ground.phase }, { on := 4, ground := Ground.phase }, { on := 5, ground := Ground.phase }, { on := 6, ground := Ground.phase }, { on := 7, ground := Ground.phase }, { on := 8, ground := Ground.textOnly Departure.lateStores }, { on := 9, ground := Ground.phase }], guard := none }) rfl (fun K hK => ?_) AllReadyH.nil
               go_simp
               refine hK.out _ _ (hPS) (fun hHeld => ?_)
               clear hK K
               try simp only [Act.put, s1, s2, s3]
               clear hHeld
               refine wpAnyH_ready (rs := [11]) (by kernel_rfl) (by simp) ?_
               refine AllReadyH.cons (o := { dst := some 18, op := Op.assign (Operand.tmp 103), type := 30, pos := "law.go:416", after := #[{ on := 8, ground := Ground.data }, { on := 10, ground := Ground.chain }, { on := 0, ground := Ground.phase }, { on := 1, ground := Ground.phase }, { on := 2, ground := Ground.phase }, { on := 3, ground := Ground.phase }, { on := 4, ground := Ground.phase }, { on := 5, ground := Ground.phase }, { on := 6, ground := Ground.phase }, { on := 7, ground := Ground.phase }, { on := 8, ground := Ground.phase }, { on := 9, ground := Ground.phase }, { on := 10, ground := Ground.phase }], guard := none }) rfl (fun K hK => ?_) AllReadyH.nil
               go_simp
               refine hK.out _ _ (hPS) (fun hHeld => ?_)
               clear hK K
               try simp only [Act.put, s1, s2, s3]
               clear hHeld
               refine wpAnyH_done (by kernel_rfl) ?_ _
               clear z0 z1 z2 z3 f0 f1 f2 f3 hgl2 hPD hbD
               generalize ((((WD.setCell ⟨gD, 0, none⟩ (.int .i64 (j : Int))).setCell ⟨gD, 1, none⟩ (.string p)).setCell ⟨gD, 2, none⟩ (.string cc)).setCell ⟨gD, 3, none⟩ (.string nx)) = WS at hPS hbS ⊢
               go_wp2_with fail
               go_meet
               exact ⟨rfl, hPS, gD, rfl, hbS⟩
            case rest =>
             obtain ⟨rfl, hPc, g17, rfl, hbD⟩ := hcut
             clear hP
             revert hPc hbD
             generalize wc = W4
             intro hP hbD
             obtain ⟨P2, B2, kP2, hPB2, hP2, hBw2, oP2⟩ := pack5 (W := W4) (fun X => P X ∧ Bk X g17 29 #[.int .i64 j, .string p, .string cc, .string nx]) ⟨hP, hbD⟩ (keepB_and (fun X Y h hb => kP X Y h (hb.mono (hPB _ hP))) (keepB_bk _ _ hbD.lt))
             have kK2 : Keep P2 := fun X Y h hb => kP2 X Y h (hb.mono (hPB2 X h))
             have HR2 : Hid (∀ X, P2 X → X.rangeAt gl 0 oc) := fun X h => HR.out X (oP2.out X h).1
             clear hBw2
             as_aux_lemma =>
              go_upto_region 15 with fail
              go_cut [19, 20] from 32 (fun s19 s20 wr => s20 = .int .i64 0 ∧ P2 wr ∧ ∃ A' c', s19 = .slice A' ((j : Int) :: I).length c' ∧ Rd wr A' (((j : Int) :: I).map (.int .i64)))
              case first =>
               as_aux_lemma =>
                have hP0 : P2 W4.drew := kK2 _ _ hP2 (bt_drew (Below.refl _ W4))
                have hPE : P2 (W4.alloc (.cells #[] 9)).drew := kK2 _ _ hP2 (bt_drew (bt_new W4 (.cells #[] 9)))
                have hownE : (W4.alloc (.cells #[] 9)).drew.ownsRow W4.heap.size 9 1 (.slice (some ⟨W4.heap.size, 0, none⟩) 0 0) 0 [] := World.ownsRow_made W4 #[] 0 (Nat.le_refl _) (Nat.zero_le _) rfl
                refine wp_region_held_drew (S := P2) (by kernel_rfl) (hP0) (fun hHeld => ?_)
                refine' wpAnyH_take (i := 0) (oi := { dst := some 105, op := Op.load 33 (Operand.tmp 8), type := 33, pos := "law.go:417", after := #[], guard := none }) (v := _) rfl (by kernel_rfl) (by kernel_rfl) (by kernel_rfl) (fun _ _ _ h => h) (yieldsIf_load_mid (by kernel_rfl) _ _ rfl _ _ rfl (oc) _ (fun W h => HR2.out W h) Tryz.underlying33 rfl (T.l33)) (by assumption) ?rest58
                try simp only [Act.put, s1, s2, s3]
                refine' tk5 (i := 1) (oi := { dst := some 106, op := Op.move (Operand.tmp 7), type := 3, pos := "law.go:417", after := #[], guard := none }) rfl ?hy59 (by assumption) ?rest59
                case hy59 => (intro W hSW; (try dsimp only at hSW); go_simp; with_reducible rfl)
                try simp only [Act.put, s1, s2, s3]
                refine' tk5 (i := 3) (oi := { dst := some 108, op := Op.move (Operand.tmp 9), type := 26, pos := "law.go:417", after := #[], guard := none }) rfl ?hy60 (by assumption) ?rest60
                case hy60 => (intro W hSW; (try dsimp only at hSW); go_simp; with_reducible rfl)
                try simp only [Act.put, s1, s2, s3]
                refine wpAnyH_ready (rs := [2]) (by kernel_rfl) (by simp) ?_
                refine AllReadyH.cons (o := { dst := some 107, op := Op.buildSlice 26 0 #[], type := 26, pos := "law.go:417", after := #[], guard := none }) rfl (fun K hK => ?_) AllReadyH.nil
                go_simp
                refine hK.out _ _ (hPE) (fun hHeld => ?_)
                clear hK K
                try simp only [Act.put, s1, s2, s3]
                refine wpAnyH_ready (rs := [4]) (by kernel_rfl) (by simp) ?_
                refine AllReadyH.cons (o := { dst := some 109, op := Op.call { callee := Callee.builtin Builtin.append, args := #[Operand.tmp 107, Operand.tmp 108], argTypes := #[26, 26] }, type := 26, pos := "law.go:417", after := #[{ on := 2, ground := Ground.data }, { on := 3, ground := Ground.data }], guard := none }) rfl (fun K hK => ?_) AllReadyH.nil
                refine step_app5 rfl _ _ rfl _ rfl A9 n c9 names rfl W4.heap.size hownE Hnl.out ((fun X h => (oP.out X (oP2.out X h).1).2.2.2.1) _ hPE) Hnil9.out (by omega) (by simp) ?_
                intro A5 c5 w5 ho5 hg5
                have hr5 := rd_own5 ho5
                have hbl5 : Below W4.heap.size W4 w5 := (bt_drew (bt_new W4 (.cells #[] 9))).grown hg5 (by simp) (fun q e => by have h9 := Option.some.inj (show some W4.heap.size = some q from e); omega)
                have hP5 := kK2 _ _ hP2 hbl5
                refine hK.out _ _ hP5 (fun hHeld => ?_)
                clear hK K hHeld hbl5 hg5 ho5
                try simp only [Act.put, s1, s2, s3]
                refine wpAnyH_ready (rs := [5]) (by kernel_rfl) (by simp) ?_
                refine AllReadyH.cons (o := { dst := some 110, op := Op.call { callee := Callee.value (Operand.func 15), args := #[Operand.tmp 105, Operand.tmp 106, Operand.tmp 109], argTypes := #[33, 3, 26] }, type := 35, pos := "law.go:417", after := #[{ on := 0, ground := Ground.data }, { on := 1, ground := Ground.data }, { on := 4, ground := Ground.data }, { on := 4, ground := Ground.chain }], guard := none }) rfl (fun K hK => ?_) AllReadyH.nil
                go_simp
                (go_at_call 15; refine (H15.out _ _ _ hr5).mono ?_; rintro e w6 ⟨⟨v, rfl, hv⟩, hb⟩)
                go_wp2_with fail
                refine hK.out _ _ (kK2 _ _ hP5 hb) (fun hHeld => ?_)
                clear hK K
                try simp only [Act.put, s1, s2, s3]
                refine' tk5 (i := 6) (oi := { dst := some 104, op := Op.move (Operand.tmp 110), type := 35, pos := "law.go:417", after := #[{ on := 5, ground := Ground.data }], guard := none }) rfl ?hy61 (by assumption) ?rest61
                case hy61 => (intro W hSW; (try dsimp only at hSW); go_simp; with_reducible rfl)
                try simp only [Act.put, s1, s2, s3]
                refine' tk5 (i := 7) (oi := { dst := some 111, op := Op.extract (Operand.tmp 104) 0, type := 34, pos := "law.go:417", after := #[{ on := 6, ground := Ground.data }], guard := none }) rfl ?hy62 (by assumption) ?rest62
                case hy62 => (intro W hSW; (try dsimp only at hSW); go_simp; with_reducible rfl)
                try simp only [Act.put, s1, s2, s3]
                refine' tk5 (i := 8) (oi := { dst := some 112, op := Op.extract (Operand.tmp 104) 1, type := 30, pos := "law.go:417", after := #[{ on := 6, ground := Ground.data }, { on := 9, ground := Ground.gcOnly Departure.lateStores }], guard := none }) rfl ?hy63 (by assumption) ?rest63
                case hy63 => (intro W hSW; (try dsimp only at hSW); go_simp; with_reducible rfl)
                try simp only [Act.put, s1, s2, s3]
                refine wpAnyH_ready (rs := [9]) (by kernel_rfl) (by simp) ?_
                refine AllReadyH.cons (o := { dst := some 19, op := Op.assign (Operand.tmp 111), type := 34, pos := "law.go:417", after := #[{ on := 7, ground := Ground.data }, { on := 5, ground := Ground.chain }, { on := 0, ground := Ground.phase }, { on := 1, ground := Ground.phase }, { on := 2, ground := Ground.phase }, { on := 3, ground := Ground.phase }, { on := 4, ground := Ground.phase }, { on := 5, ground := Ground.phase }, { on := 6, ground := Ground.phase }, { on := 7, ground := Ground.phase }, { on := 8, ground := Ground.textOnly Departure.lateStores }], guard := none }) rfl (fun K hK => ?_) AllReadyH.nil
                go_simp
                refine hK.out _ _ (hHeld) (fun hHeld => ?_)
                clear hK K
                try simp only [Act.put, s1, s2, s3]
                refine wpAnyH_ready (rs := [10]) (by kernel_rfl) (by simp) ?_
                refine AllReadyH.cons (o := { dst := some 20, op := Op.assign (Operand.tmp 112), type := 30, pos := "law.go:417", after := #[{ on := 8, ground := Ground.data }, { on := 9, ground := Ground.chain }, { on := 0, ground := Ground.phase }, { on := 1, ground := Ground.phase }, { on := 2, ground := Ground.phase }, { on := 3, ground := Ground.phase }, { on := 4, ground := Ground.phase }, { on := 5, ground := Ground.phase }, { on := 6, ground := Ground.phase }, { on := 7, ground := Ground.phase }, { on := 8, ground := Ground.phase }, { on := 9, ground := Ground.phase }], guard := none }) rfl (fun K hK => ?_) AllReadyH.nil
                go_simp
                refine hK.out _ _ (hHeld) (fun hHeld => ?_)
                clear hK K
                try simp only [Act.put, s1, s2, s3]
                refine wpAnyH_done (by kernel_rfl) ?_ _
                go_wp2_with fail
                go_meet
                obtain ⟨_, A6, c6, rfl, hr6⟩ := hv
                exact ⟨rfl, hHeld, A6, c6, rfl, hr6⟩
              case rest =>
               obtain ⟨rfl, hPc, A19, c19, rfl, hr19⟩ := hcut
               clear hP2 hP hbD
               obtain ⟨b19, o19, rfl, hc19⟩ := hr19.int (k := 0) (by simp)
               obtain ⟨P3, B3, kP3, hPB3, hP3, hBw3, oP3⟩ := pack5 (W := wc) (fun X => P2 X ∧ X.cell? ⟨b19, o19 + 0, none⟩ = some (.int .i64 j)) ⟨hPc, hc19⟩ (keepB_and (fun X Y h hb => kP2 X Y h (hb.mono (hPB2 _ hPc))) (fun X Y h hb => (hb.cell (p := ⟨b19, o19 + 0, none⟩) (World.block_lt_of_cell? _ ⟨b19, o19 + 0, none⟩ hc19)).trans h))
               have kK3 : Keep P3 := fun X Y h hb => kP3 X Y h (hb.mono (hPB3 X h))
               have HR3 : Hid (∀ X, P3 X → X.rangeAt gl 0 oc) := fun X h => HR2.out X (oP3.out X h).1
               clear hPc hc19 hr19 kP2 kK2 hPB2 hBw3 HR2 HR kK
               revert hP3
               generalize wc = W5
               intro hP3
               have hm19 : 0 < ((j : Int) :: I).length := by simp
               generalize ((j : Int) :: I).length = m19 at hm19 ⊢
               have hm0 : ((m19 : Int) == 0) = false := by simp; omega
               have hm1 : (0 : Int) < (m19 : Int) := by omega
               have q0 : (0 : Int) ≤ (j : Int) := by omega
               have q1 : (j : Int) < (n : Int) := by omega
               as_aux_lemma =>
                go_upto_region 20 with fail
                obtain ⟨g9, rfl⟩ := some_form5 Hnil9.out Hform9.out hj
                obtain ⟨g10, rfl⟩ := some_form5 Hnil10.out Hform10.out hj
                have HC : Hid (∀ X, P3 X → (X.cell? ⟨b19, o19 + 0, none⟩ = some (.int .i64 j) ∧ X.cell? ⟨g17, 0, none⟩ = some (.int .i64 j) ∧ X.cell? ⟨g17, 1, none⟩ = some (.string p) ∧ X.cell? ⟨g17, 2, none⟩ = some (.string cc) ∧ X.cell? ⟨g17, 3, none⟩ = some (.string nx)) ∧ X.cell? ⟨g9, j, none⟩ = some (.string cc) ∧ X.cell? ⟨g10, j, none⟩ = some (.string p)) := fun X h => by
                 have h3 := oP3.out X h
                 have h2 := oP2.out X h3.1
                 have h1 := oP.out X h2.1
                 refine ⟨⟨h3.2, by rw [h2.2.cell]; rfl, by rw [h2.2.cell]; rfl, by rw [h2.2.cell]; rfl, by rw [h2.2.cell]; rfl⟩, ?_, ?_⟩
                 ·
                  rw [Hc.out]; exact rd_str5 h1.2.2.2.1 (by rw [Hnl.out]; exact hj)
                 ·
                  rw [Hp.out]; exact rd_str5 h1.2.2.2.2 (by rw [Hsl.out]; exact hj)
                obtain ⟨⟨i19, d0, d1, d2, d3⟩, n9, n10⟩ := HC.out W5 hP3
                have i19 : W5.cell? ⟨b19, o19, none⟩ = some (.int .i64 j) := i19
                have e1 : decide ((j : Int) < 0) = false := decide_eq_false (by omega)
                have e2 : decide ((n : Int) ≤ (j : Int)) = false := decide_eq_false (by omega)
                go_quiet (fail)
                go_upto_region 22 with fail
                have hP4 : P3 (W5.drewN nq) := kK3 _ _ hP3 (bt_drewN (Below.refl _ W5) nq)
                clear i19 d0 d1 d2 d3 n9 n10 e1 e2 hP3 hm0 hm1 hm19
                generalize W5.drewN nq = W6 at hP4 ⊢
                as_aux_lemma =>
                 have hsl1 : (j : Int) ≤ (c9 : Int) := by omega
                 have HS22 : Hid (∀ X, P3 X → X.cell? ⟨g17, 0, none⟩ = some (.int .i64 j) ∧ X.cell? ⟨g17, 1, none⟩ = some (.string p)) := fun X h => ⟨(HC.out X h).1.2.1, (HC.out X h).1.2.2.1⟩
                 have HR9 : Hid (∀ X, P3 X → Rd X (some ⟨g9, 0, none⟩) ((names.take j).map .string)) := fun X h => by
                  rw [List.map_take]; exact rd_take5 j (oP.out X (oP2.out X (oP3.out X h).1).1).2.2.2.1
                 have Htl : Hid ((names.take j).length = j) := by show _ = _; rw [List.length_take, Hnl.out]; omega
                 go_cut [21] from 32 (fun s21 wr => P3 wr ∧ ∃ g' c', s21 = .slice (some ⟨g', 0, none⟩) (j + 1) c' ∧ Rd wr (some ⟨g', 0, none⟩) ((names.take j ++ [p]).map .string))
                 case first =>
                  as_aux_lemma =>
                   have hP0 : P3 W6.drew := kK3 _ _ hP4 (bt_drew (Below.refl _ W6))
                   have hPE : P3 (W6.alloc (.cells #[] 9)).drew := kK3 _ _ hP4 (bt_drew (bt_new W6 (.cells #[] 9)))
                   have hPN : P3 (W6.alloc (.cells #[.string p] 9)).drew := kK3 _ _ hP4 (bt_drew (bt_new W6 _))
                   have hPEN : P3 ((W6.alloc (.cells #[] 9)).alloc (.cells #[.string p] 9)).drew := kK3 _ _ hP4 (bt_drew (bt_alloc (bt_new W6 _) _))
                   have hownE : (W6.alloc (.cells #[] 9)).drew.ownsRow W6.heap.size 9 1 (.slice (some ⟨W6.heap.size, 0, none⟩) 0 0) 0 [] := World.ownsRow_made W6 #[] 0 (Nat.le_refl _) (Nat.zero_le _) rfl
                   have hownEN : ((W6.alloc (.cells #[] 9)).alloc (.cells #[.string p] 9)).drew.ownsRow W6.heap.size 9 1 (.slice (some ⟨W6.heap.size, 0, none⟩) 0 0) 0 [] := World.ownsRow.alloc (World.ownsRow_made W6 #[] 0 (Nat.le_refl _) (Nat.zero_le _) rfl) _
                   have hBE : B3 ≤ W6.heap.size := hPB3 _ hP4
                   refine wp_region_held_drew (S := fun W => W.cell? ⟨g17, 0, none⟩ = some (.int .i64 j) ∧ W.cell? ⟨g17, 1, none⟩ = some (.string p)) (by kernel_rfl) (HS22.out _ hP0) (fun hHeld => ?_)
                   refine' tk5 (i := 1) (oi := { dst := some 193, op := Op.move (Operand.tmp 9), type := 26, pos := "law.go:427", after := #[], guard := none }) rfl ?hy64 (by assumption) ?rest64
                   case hy64 => (intro W hSW; (try dsimp only at hSW); go_simp; with_reducible rfl)
                   try simp only [Act.put, s1, s2, s3]
                   refine' tk5 (i := 2) (oi := { dst := some 194, op := Op.fieldAddr 29 (Operand.tmp 17) 0, type := 0, pos := "law.go:427", after := #[], guard := none }) rfl ?hy65 (by assumption) ?rest65
                   case hy65 => (intro W hSW; (try dsimp only at hSW); go_simp; with_reducible rfl)
                   try simp only [Act.put, s1, s2, s3]
                   refine' tk5 (i := 3) (oi := { dst := some 195, op := Op.load 3 (Operand.tmp 194), type := 3, pos := "law.go:427", after := #[{ on := 2, ground := Ground.data }], guard := none }) rfl ?hy66 (by assumption) ?rest66
                   case hy66 => (intro W hSW; (try dsimp only at hSW); go_simp; with_reducible rfl)
                   try simp only [Act.put, s1, s2, s3]
                   refine' tk5 (i := 4) (oi := { dst := some 196, op := Op.slice 26 (Operand.tmp 193) none (some (Operand.tmp 195)) none, type := 26, pos := "law.go:427", after := #[{ on := 1, ground := Ground.data }, { on := 3, ground := Ground.data }], guard := none }) rfl ?hy67 (by assumption) ?rest67
                   case hy67 => (intro W hSW; (try dsimp only at hSW); go_simp; with_reducible rfl)
                   try simp only [Act.put, s1, s2, s3]
                   refine' tk5 (i := 6) (oi := { dst := some 198, op := Op.fieldAddr 29 (Operand.tmp 17) 1, type := 0, pos := "law.go:427", after := #[], guard := none }) rfl ?hy68 (by assumption) ?rest68
                   case hy68 => (intro W hSW; (try dsimp only at hSW); go_simp; with_reducible rfl)
                   try simp only [Act.put, s1, s2, s3]
                   refine' tk5 (i := 7) (oi := { dst := some 199, op := Op.load 9 (Operand.tmp 198), type := 9, pos := "law.go:427", after := #[{ on := 6, ground := Ground.data }], guard := none }) rfl ?hy69 (by assumption) ?rest69
                   case hy69 => (intro W hSW; (try dsimp only at hSW); go_simp; with_reducible rfl)
                   try simp only [Act.put, s1, s2, s3]
                   refine wpAnyH_ready (rs := [0, 8]) (by kernel_rfl) (by simp) ?_
                   refine AllReadyH.cons (o := { dst := some 192, op := Op.buildSlice 26 0 #[], type := 26, pos := "law.go:427", after := #[], guard := none }) rfl (fun K hK => ?_) (AllReadyH.cons (o := { dst := some 200, op := Op.buildSlice 26 1 #[(0, Operand.tmp 199)], type := 26, pos := "law.go:427", after := #[{ on := 7, ground := Ground.data }], guard := none }) rfl (fun K hK => ?_) AllReadyH.nil)
                   ·
                    go_simp
                    refine hK.out _ _ (HS22.out _ hPE) (fun hHeld => ?_)
                    clear hK K hHeld
                    try simp only [Act.put, s1, s2, s3]
                    refine wpAnyH_ready (rs := [5, 8]) (by kernel_rfl) (by simp) ?_
                    refine AllReadyH.cons (o := { dst := some 197, op := Op.call { callee := Callee.builtin Builtin.append, args := #[Operand.tmp 192, Operand.tmp 196], argTypes := #[26, 26] }, type := 26, pos := "law.go:427", after := #[{ on := 0, ground := Ground.data }, { on := 4, ground := Ground.data }], guard := none }) rfl (fun K hK => ?_) (AllReadyH.cons (o := { dst := some 200, op := Op.buildSlice 26 1 #[(0, Operand.tmp 199)], type := 26, pos := "law.go:427", after := #[{ on := 7, ground := Ground.data }], guard := none }) rfl (fun K hK => ?_) AllReadyH.nil)
                    ·
                     refine step_app5 rfl _ _ rfl _ rfl (some ⟨g9, 0, none⟩) j c9 (names.take j) rfl W6.heap.size hownE Htl.out (HR9.out _ hPE) (fun e => by cases e) (by omega) (by simp) ?_
                     intro A5 c5 w5 ho5 hg5
                     have hbl5 : Below W6.heap.size W6 w5 := (bt_drew (bt_new W6 (.cells #[] 9))).grown hg5 (by simp) (fun q e => by have h9 := Option.some.inj (show some W6.heap.size = some q from e); omega)
                     have hP5 := kK3 _ _ hP4 hbl5
                     have hsz5 := hbl5.size
                     refine hK.out _ _ (HS22.out _ hP5) (fun hHeld => ?_)
                     clear hK K hHeld hbl5 hg5
                     try simp only [Act.put, s1, s2, s3]
                     refine wpAnyH_ready (rs := [8]) (by kernel_rfl) (by simp) ?_
                     refine AllReadyH.cons (o := { dst := some 200, op := Op.buildSlice 26 1 #[(0, Operand.tmp 199)], type := 26, pos := "law.go:427", after := #[{ on := 7, ground := Ground.data }], guard := none }) rfl (fun K hK => ?_) AllReadyH.nil
                     go_simp
                     refine hK.out _ _ (HS22.out _ (kK3 _ _ hP5 (bt_new _ _))) (fun hHeld => ?_)
                     clear hK K
                     try simp only [Act.put, s1, s2, s3]
                     clear hHeld
                     have hPX := kK3 _ _ hP5 (bt_new w5 (.cells #[.string p] 9))
                     have hnew := news5 (Bk.new w5 9 #[.string p])
                     have hoX := World.ownsRow.alloc ho5 (.cells #[.string p] 9)
                     have hbX : W6.heap.size ≤ (w5.alloc (.cells #[.string p] 9)).heap.size := by simp; omega
                     clear hP5 ho5 hPE hPN hPEN hownE hownEN hP0
                     generalize (w5.alloc (.cells #[.string p] 9)) = WX at hPX hoX hbX hnew ⊢
                     generalize w5.heap.size = gN at hnew hsz5 ⊢
                     generalize W6.heap.size = gE at hoX hbX hBE
                     refine wpAnyH_ready (rs := [9]) (by kernel_rfl) (by simp) ?_
                     refine AllReadyH.cons (o := { dst := some 201, op := Op.call { callee := Callee.builtin Builtin.append, args := #[Operand.tmp 197, Operand.tmp 200], argTypes := #[26, 26] }, type := 26, pos := "law.go:427", after := #[{ on := 5, ground := Ground.data }, { on := 8, ground := Ground.data }, { on := 5, ground := Ground.chain }], guard := none }) rfl (fun K hK => ?_) AllReadyH.nil
                     refine step_append_lies _ rfl _ _ 26 rfl gE 9 i0 (.string { data := #[] }) 1 16 Tryz.underlying26 hi hz0 hz1 hz2 rfl (by decide) _ _ _ rfl hoX ⟨gN, 0, none⟩ 1 1 [.string p] rfl rfl hnew (strs_oneCell [p]) (by decide) (by unfold maxLen; omega) (by omega) hbX _ rfl ?_
                     intro g7 c7 w7 ho7 hg7 hat7 hlt7
                     have hP7 : P3 w7 := kP3 _ _ hPX ((Below.refl B3 WX).grown hg7 (hPB3 _ hPX) (fun q e => Nat.le_trans hBE ((hoX.lt _ e).1)))
                     refine hK.out _ _ (HS22.out _ hP7) (fun hHeld => ?_)
                     clear hK K
                     try simp only [Act.put, s1, s2, s3]
                     refine wpAnyH_ready (rs := [10]) (by kernel_rfl) (by simp) ?_
                     refine AllReadyH.cons (o := { dst := some 21, op := Op.assign (Operand.tmp 201), type := 26, pos := "law.go:427", after := #[{ on := 9, ground := Ground.data }, { on := 9, ground := Ground.chain }, { on := 0, ground := Ground.phase }, { on := 1, ground := Ground.phase }, { on := 2, ground := Ground.phase }, { on := 3, ground := Ground.phase }, { on := 4, ground := Ground.phase }, { on := 5, ground := Ground.phase }, { on := 6, ground := Ground.phase }, { on := 7, ground := Ground.phase }, { on := 8, ground := Ground.phase }, { on := 9, ground := Ground.phase }], guard := none }) rfl (fun K hK => ?_) AllReadyH.nil
                     go_simp
                     refine hK.out _ _ (hHeld) (fun hHeld => ?_)
                     clear hK K
                     try simp only [Act.put, s1, s2, s3]
                     refine wpAnyH_done (by kernel_rfl) ?_ _
                     go_wp2_with fail
                     go_meet
                     exact ⟨hP7, g7, c7, rfl, by rw [List.map_append]; exact rd_own5 ho7⟩
                    ·
                     go_simp
                     refine hK.out _ _ (HS22.out _ hPEN) (fun hHeld => ?_)
                     clear hK K hHeld
                     try simp only [Act.put, s1, s2, s3]
                     have hbN : Bk ((W6.alloc (.cells #[] 9)).alloc (.cells #[.string p] 9)).drew (W6.heap.size + 1) 9 #[.string p] := by
                      have := Bk.new (W6.alloc (.cells #[] 9)) 9 #[.string p]
                      rw [World.size_alloc] at this
                      exact this
                     refine wpAnyH_ready (rs := [5]) (by kernel_rfl) (by simp) ?_
                     refine AllReadyH.cons (o := { dst := some 197, op := Op.call { callee := Callee.builtin Builtin.append, args := #[Operand.tmp 192, Operand.tmp 196], argTypes := #[26, 26] }, type := 26, pos := "law.go:427", after := #[{ on := 0, ground := Ground.data }, { on := 4, ground := Ground.data }], guard := none }) rfl (fun K hK => ?_) AllReadyH.nil
                     refine step_app5 rfl _ _ rfl _ rfl (some ⟨g9, 0, none⟩) j c9 (names.take j) rfl W6.heap.size hownEN Htl.out (HR9.out _ hPEN) (fun e => by cases e) (by omega) (by simp; omega) ?_
                     intro A5 c5 w5 ho5 hg5
                     have hbl5 : Below W6.heap.size W6 w5 := (bt_drew (bt_alloc (bt_new W6 (.cells #[] 9)) (.cells #[.string p] 9))).grown hg5 (by simp; omega) (fun q e => by have h9 := Option.some.inj (show some W6.heap.size = some q from e); omega)
                     have hPX := kK3 _ _ hP4 hbl5
                     have hbX : W6.heap.size ≤ w5.heap.size := hbl5.size
                     have hnew := news5 ((hg5.block _ hbN.lt (fun e => by have h9 := Option.some.inj (show some (W6.heap.size + 1) = some W6.heap.size from e); omega)).trans hbN)
                     have hoX := ho5
                     refine hK.out _ _ (HS22.out _ hPX) (fun hHeld => ?_)
                     clear hK K hHeld hbN hbl5 hg5 ho5 hPE hPN hPEN hownE hownEN hP0
                     try simp only [Act.put, s1, s2, s3]
                     generalize w5 = WX at hPX hoX hbX hnew ⊢
                     generalize W6.heap.size + 1 = gN at hnew ⊢
                     generalize W6.heap.size = gE at hoX hbX hBE ⊢
                     refine wpAnyH_ready (rs := [9]) (by kernel_rfl) (by simp) ?_
                     refine AllReadyH.cons (o := { dst := some 201, op := Op.call { callee := Callee.builtin Builtin.append, args := #[Operand.tmp 197, Operand.tmp 200], argTypes := #[26, 26] }, type := 26, pos := "law.go:427", after := #[{ on := 5, ground := Ground.data }, { on := 8, ground := Ground.data }, { on := 5, ground := Ground.chain }], guard := none }) rfl (fun K hK => ?_) AllReadyH.nil
                     refine step_append_lies _ rfl _ _ 26 rfl gE 9 i0 (.string { data := #[] }) 1 16 Tryz.underlying26 hi hz0 hz1 hz2 rfl (by decide) _ _ _ rfl hoX ⟨gN, 0, none⟩ 1 1 [.string p] rfl rfl hnew (strs_oneCell [p]) (by decide) (by unfold maxLen; omega) (by omega) hbX _ rfl ?_
                     intro g7 c7 w7 ho7 hg7 hat7 hlt7
                     have hP7 : P3 w7 := kP3 _ _ hPX ((Below.refl B3 WX).grown hg7 (hPB3 _ hPX) (fun q e => Nat.le_trans hBE ((hoX.lt _ e).1)))
                     refine hK.out _ _ (HS22.out _ hP7) (fun hHeld => ?_)
                     clear hK K
                     try simp only [Act.put, s1, s2, s3]
                     refine wpAnyH_ready (rs := [10]) (by kernel_rfl) (by simp) ?_
                     refine AllReadyH.cons (o := { dst := some 21, op := Op.assign (Operand.tmp 201), type := 26, pos := "law.go:427", after := #[{ on := 9, ground := Ground.data }, { on := 9, ground := Ground.chain }, { on := 0, ground := Ground.phase }, { on := 1, ground := Ground.phase }, { on := 2, ground := Ground.phase }, { on := 3, ground := Ground.phase }, { on := 4, ground := Ground.phase }, { on := 5, ground := Ground.phase }, { on := 6, ground := Ground.phase }, { on := 7, ground := Ground.phase }, { on := 8, ground := Ground.phase }, { on := 9, ground := Ground.phase }], guard := none }) rfl (fun K hK => ?_) AllReadyH.nil
                     go_simp
                     refine hK.out _ _ (hHeld) (fun hHeld => ?_)
                     clear hK K
                     try simp only [Act.put, s1, s2, s3]
                     refine wpAnyH_done (by kernel_rfl) ?_ _
                     go_wp2_with fail
                     go_meet
                     exact ⟨hP7, g7, c7, rfl, by rw [List.map_append]; exact rd_own5 ho7⟩
                   ·
                    go_simp
                    refine hK.out _ _ (HS22.out _ hPN) (fun hHeld => ?_)
                    clear hK K hHeld
                    try simp only [Act.put, s1, s2, s3]
                    have hbN : Bk (W6.alloc (.cells #[.string p] 9)).drew W6.heap.size 9 #[.string p] := Bk.new W6 9 #[.string p]
                    clear hPE hPEN hownE hownEN hP0
                    generalize (W6.alloc (.cells #[.string p] 9)).drew = WE at hPN hbN ⊢
                    generalize W6.heap.size = gN at hbN hBE ⊢
                    refine wpAnyH_ready (rs := [0]) (by kernel_rfl) (by simp) ?_
                    refine AllReadyH.cons (o := { dst := some 192, op := Op.buildSlice 26 0 #[], type := 26, pos := "law.go:427", after := #[], guard := none }) rfl (fun K hK => ?_) AllReadyH.nil
                    go_simp
                    refine hK.out _ _ (HS22.out _ (kK3 _ _ hPN (bt_new _ _))) (fun hHeld => ?_)
                    clear hK K
                    try simp only [Act.put, s1, s2, s3]
                    clear hHeld
                    have hown := World.ownsRow_made (base := WE.heap.size) (e := 9) (size := 1) WE #[] 0 (Nat.le_refl _) (Nat.zero_le _) rfl
                    refine wpAnyH_ready (rs := [5]) (by kernel_rfl) (by simp) ?_
                    refine AllReadyH.cons (o := { dst := some 197, op := Op.call { callee := Callee.builtin Builtin.append, args := #[Operand.tmp 192, Operand.tmp 196], argTypes := #[26, 26] }, type := 26, pos := "law.go:427", after := #[{ on := 0, ground := Ground.data }, { on := 4, ground := Ground.data }], guard := none }) rfl (fun K hK => ?_) AllReadyH.nil
                    refine step_app5 rfl _ _ rfl _ rfl (some ⟨g9, 0, none⟩) j c9 (names.take j) rfl WE.heap.size hown Htl.out (HR9.out _ (kK3 _ _ hPN (bt_new _ _))) (fun e => by cases e) (by omega) (by simp) ?_
                    intro A5 c5 w5 ho5 hg5
                    have hbl5 : Below WE.heap.size WE w5 := (bt_new WE (.cells #[] 9)).grown hg5 (by simp) (fun q e => by have h9 := Option.some.inj (show some WE.heap.size = some q from e); omega)
                    have hPX := kK3 _ _ hPN hbl5
                    have hbX : WE.heap.size ≤ w5.heap.size := hbl5.size
                    have hnew := news5 (hbN.below hbl5 hbN.lt)
                    have hoX := ho5
                    have hBE := hPB3 _ hPN
                    refine hK.out _ _ (HS22.out _ hPX) (fun hHeld => ?_)
                    clear hK K hHeld hown hbl5 hg5 ho5
                    try simp only [Act.put, s1, s2, s3]
                    generalize w5 = WX at hPX hoX hbX hnew ⊢
                    generalize WE.heap.size = gE at hoX hbX hBE ⊢
                    refine wpAnyH_ready (rs := [9]) (by kernel_rfl) (by simp) ?_
                    refine AllReadyH.cons (o := { dst := some 201, op := Op.call { callee := Callee.builtin Builtin.append, args := #[Operand.tmp 197, Operand.tmp 200], argTypes := #[26, 26] }, type := 26, pos := "law.go:427", after := #[{ on := 5, ground := Ground.data }, { on := 8, ground := Ground.data }, { on := 5, ground := Ground.chain }], guard := none }) rfl (fun K hK => ?_) AllReadyH.nil
                    refine step_append_lies _ rfl _ _ 26 rfl gE 9 i0 (.string { data := #[] }) 1 16 Tryz.underlying26 hi hz0 hz1 hz2 rfl (by decide) _ _ _ rfl hoX ⟨gN, 0, none⟩ 1 1 [.string p] rfl rfl hnew (strs_oneCell [p]) (by decide) (by unfold maxLen; omega) (by omega) hbX _ rfl ?_
                    intro g7 c7 w7 ho7 hg7 hat7 hlt7
                    have hP7 : P3 w7 := kP3 _ _ hPX ((Below.refl B3 WX).grown hg7 (hPB3 _ hPX) (fun q e => Nat.le_trans hBE ((hoX.lt _ e).1)))
                    refine hK.out _ _ (HS22.out _ hP7) (fun hHeld => ?_)
                    clear hK K
                    try simp only [Act.put, s1, s2, s3]
                    refine wpAnyH_ready (rs := [10]) (by kernel_rfl) (by simp) ?_
                    refine AllReadyH.cons (o := { dst := some 21, op := Op.assign (Operand.tmp 201), type := 26, pos := "law.go:427", after := #[{ on := 9, ground := Ground.data }, { on := 9, ground := Ground.chain }, { on := 0, ground := Ground.phase }, { on := 1, ground := Ground.phase }, { on := 2, ground := Ground.phase }, { on := 3, ground := Ground.phase }, { on := 4, ground := Ground.phase }, { on := 5, ground := Ground.phase }, { on := 6, ground := Ground.phase }, { on := 7, ground := Ground.phase }, { on := 8, ground := Ground.phase }, { on := 9, ground := Ground.phase }], guard := none }) rfl (fun K hK => ?_) AllReadyH.nil
                    go_simp
                    refine hK.out _ _ (hHeld) (fun hHeld => ?_)
                    clear hK K
                    try simp only [Act.put, s1, s2, s3]
                    refine wpAnyH_done (by kernel_rfl) ?_ _
                    go_wp2_with fail
                    go_meet
                    exact ⟨hP7, g7, c7, rfl, by rw [List.map_append]; exact rd_own5 ho7⟩
                 case rest =>
                  obtain ⟨hP5, g21, c21, rfl, hr21⟩ := hcut
                  clear hP4 HS22 HR9 Htl
                  obtain ⟨P4, B4, kP4, hPB4, hP4, hBw4, oP4⟩ := pack5 (W := wc) (fun X => P3 X ∧ Rd X (some ⟨g21, 0, none⟩) ((names.take j ++ [p]).map .string)) ⟨hP5, hr21⟩ (keepB_and (fun X Y h hb => kP3 X Y h (hb.mono (hPB3 _ hP5))) (keepB_rd hr21))
                  have kK4 : Keep P4 := fun X Y h hb => kP4 X Y h (hb.mono (hPB4 X h))
                  have HR4 : Hid (∀ X, P4 X → X.rangeAt gl 0 oc) := fun X h => HR3.out X (oP4.out X h).1
                  have Hl1 : Hid ((names.take j ++ [p]).length = j + 1) := by show _ = _; rw [List.length_append, List.length_take, Hnl.out, List.length_singleton]; omega
                  have H23 := Lib.hid (T.hd (names.take j ++ [p]) (j + 1) zi zp zc zx 7 Hl1.out (by omega) (by rw [← hzz]; exact H1.out))
                  clear hP5 hr21 hBw4
                  revert hP4
                  generalize wc = W7
                  intro hP4
                  as_aux_lemma =>
                   go_upto_region 23 with fail
                   go_cut [22, 23] from 32 (fun s22 s23 wr => s23 = .int .i64 7 ∧ P4 wr ∧ ∃ g, s22 = .pointer (some ⟨g, 0, none⟩) ∧ Bk wr g 29 #[.int .i64 zi, .string zp, .string zc, .string zx])
                   case first =>
                    as_aux_lemma =>
                     have hP0 : P4 W7.drew := kK4 _ _ hP4 (bt_drew (Below.refl _ W7))
                     have hPE : P4 (W7.alloc (.cells #[] 9)).drew := kK4 _ _ hP4 (bt_drew (bt_new W7 (.cells #[] 9)))
                     have hPDq : P4 (W7.alloc (.cells #[.int .i64 0, .string { data := #[] }, .string { data := #[] }, .string { data := #[] }] 29)).drew := kK4 _ _ hP4 (bt_drew (bt_new W7 _))
                     have hPED : P4 ((W7.alloc (.cells #[] 9)).alloc (.cells #[.int .i64 0, .string { data := #[] }, .string { data := #[] }, .string { data := #[] }] 29)).drew := kK4 _ _ hP4 (bt_drew (bt_alloc (bt_new W7 _) _))
                     have hownE : (W7.alloc (.cells #[] 9)).drew.ownsRow W7.heap.size 9 1 (.slice (some ⟨W7.heap.size, 0, none⟩) 0 0) 0 [] := World.ownsRow_made W7 #[] 0 (Nat.le_refl _) (Nat.zero_le _) rfl
                     have hownED : ((W7.alloc (.cells #[] 9)).alloc (.cells #[.int .i64 0, .string { data := #[] }, .string { data := #[] }, .string { data := #[] }] 29)).drew.ownsRow W7.heap.size 9 1 (.slice (some ⟨W7.heap.size, 0, none⟩) 0 0) 0 [] := World.ownsRow.alloc (World.ownsRow_made W7 #[] 0 (Nat.le_refl _) (Nat.zero_le _) rfl) _
                     have hwl : B4 ≤ W7.heap.size := hPB4 _ hP4
                     refine wp_region_held_drew (S := P4) (by kernel_rfl) (hP0) (fun hHeld => ?_)
                     refine' wpAnyH_take (i := 0) (oi := { dst := some 203, op := Op.load 33 (Operand.tmp 8), type := 33, pos := "law.go:428", after := #[], guard := none }) (v := _) rfl (by kernel_rfl) (by kernel_rfl) (by kernel_rfl) (fun _ _ _ h => h) (yieldsIf_load_mid (by kernel_rfl) _ _ rfl _ _ rfl (oc) _ (fun W h => HR4.out W h) Tryz.underlying33 rfl (T.l33)) (by assumption) ?rest70
                     try simp only [Act.put, s1, s2, s3]
                     refine' tk5 (i := 1) (oi := { dst := some 204, op := Op.move (Operand.tmp 7), type := 3, pos := "law.go:428", after := #[], guard := none }) rfl ?hy71 (by assumption) ?rest71
                     case hy71 => (intro W hSW; (try dsimp only at hSW); go_simp; with_reducible rfl)
                     try simp only [Act.put, s1, s2, s3]
                     refine' tk5 (i := 3) (oi := { dst := some 206, op := Op.move (Operand.tmp 21), type := 26, pos := "law.go:428", after := #[], guard := none }) rfl ?hy72 (by assumption) ?rest72
                     case hy72 => (intro W hSW; (try dsimp only at hSW); go_simp; with_reducible rfl)
                     try simp only [Act.put, s1, s2, s3]
                     refine wpAnyH_ready (rs := [2, 9]) (by kernel_rfl) (by simp) ?_
                     refine AllReadyH.cons (o := { dst := some 205, op := Op.buildSlice 26 0 #[], type := 26, pos := "law.go:428", after := #[], guard := none }) rfl (fun K hK => ?_) (AllReadyH.cons (o := { dst := some 22, op := Op.alloc 29, type := 0, pos := "law.go:428", after := #[], guard := none }) rfl (fun K hK => ?_) AllReadyH.nil)
                     ·
                      go_simp
                      refine hK.out _ _ hPE (fun hHeld => ?_)
                      clear hK K hHeld
                      try simp only [Act.put, s1, s2, s3]
                      refine wpAnyH_ready (rs := [4, 9]) (by kernel_rfl) (by simp) ?_
                      refine AllReadyH.cons (o := { dst := some 207, op := Op.call { callee := Callee.builtin Builtin.append, args := #[Operand.tmp 205, Operand.tmp 206], argTypes := #[26, 26] }, type := 26, pos := "law.go:428", after := #[{ on := 2, ground := Ground.data }, { on := 3, ground := Ground.data }], guard := none }) rfl (fun K hK => ?_) (AllReadyH.cons (o := { dst := some 22, op := Op.alloc 29, type := 0, pos := "law.go:428", after := #[], guard := none }) rfl (fun K hK => ?_) AllReadyH.nil)
                      ·
                       refine step_app5 rfl _ _ rfl _ rfl (some ⟨g21, 0, none⟩) (j + 1) c21 (names.take j ++ [p]) rfl W7.heap.size hownE Hl1.out ((fun X h => (oP4.out X h).2) _ hPE) (fun e => by cases e) (by omega) (by simp) ?_
                       intro A5 c5 w5 ho5 hg5
                       have hr5 := rd_own5 ho5
                       have hbl5 : Below W7.heap.size W7 w5 := (bt_drew (bt_new W7 (.cells #[] 9))).grown hg5 (by simp) (fun q e => by have h9 := Option.some.inj (show some W7.heap.size = some q from e); omega)
                       have hP5 := kK4 _ _ hP4 hbl5
                       refine hK.out _ _ hP5 (fun hHeld => ?_)
                       clear hK K hHeld hbl5 hg5 ho5
                       try simp only [Act.put, s1, s2, s3]
                       refine wpAnyH_ready (rs := [5, 9]) (by kernel_rfl) (by simp) ?_
                       refine AllReadyH.cons (o := { dst := some 208, op := Op.call { callee := Callee.value (Operand.func 14), args := #[Operand.tmp 203, Operand.tmp 204, Operand.tmp 207], argTypes := #[33, 3, 26] }, type := 31, pos := "law.go:428", after := #[{ on := 0, ground := Ground.data }, { on := 1, ground := Ground.data }, { on := 4, ground := Ground.data }, { on := 4, ground := Ground.chain }], guard := none }) rfl (fun K hK => ?_) (AllReadyH.cons (o := { dst := some 22, op := Op.alloc 29, type := 0, pos := "law.go:428", after := #[], guard := none }) rfl (fun K hK => ?_) AllReadyH.nil)
                       ·
                        go_simp
                        go_at_call 14
                        refine (H23.out _ _ _ hr5).mono ?_
                        rintro e w6 ⟨rfl, hb⟩
                        go_wp2_with fail
                        refine hK.out _ _ (kK4 _ _ hP5 hb) (fun hHeld => ?_)
                        clear hK K hHeld
                        try simp only [Act.put, s1, s2, s3]
                        have hP6 := kK4 _ _ hP5 hb
                        clear hb hr5 hP5
                        have hHeld := hP6
                        refine' tk5 (i := 6) (oi := { dst := some 202, op := Op.move (Operand.tmp 208), type := 31, pos := "law.go:428", after := #[{ on := 5, ground := Ground.data }], guard := none }) rfl ?hy73 (by assumption) ?rest73
                        case hy73 => (intro W hSW; (try dsimp only at hSW); go_simp; with_reducible rfl)
                        try simp only [Act.put, s1, s2, s3]
                        refine' tk5 (i := 7) (oi := { dst := some 209, op := Op.extract (Operand.tmp 202) 0, type := 29, pos := "law.go:428", after := #[{ on := 6, ground := Ground.data }], guard := none }) rfl ?hy74 (by assumption) ?rest74
                        case hy74 => (intro W hSW; (try dsimp only at hSW); go_simp; with_reducible rfl)
                        try simp only [Act.put, s1, s2, s3]
                        refine' tk5 (i := 8) (oi := { dst := some 210, op := Op.extract (Operand.tmp 202) 1, type := 30, pos := "law.go:428", after := #[{ on := 6, ground := Ground.data }, { on := 10, ground := Ground.gcOnly Departure.lateStores }], guard := none }) rfl ?hy75 (by assumption) ?rest75
                        case hy75 => (intro W hSW; (try dsimp only at hSW); go_simp; with_reducible rfl)
                        try simp only [Act.put, s1, s2, s3]
                        clear hHeld
                        refine wpAnyH_ready (rs := [9]) (by kernel_rfl) (by simp) ?_
                        refine AllReadyH.cons (o := { dst := some 22, op := Op.alloc 29, type := 0, pos := "law.go:428", after := #[], guard := none }) rfl (fun K hK => ?_) AllReadyH.nil
                        go_simp
                        refine hK.out _ _ ((kK4 _ _ hP6 (bt_new _ _))) (fun hHeld => ?_)
                        clear hK K
                        try simp only [Act.put, s1, s2, s3]
                        clear hHeld
                        have hPD := kK4 _ _ hP6 (bt_new w6 (.cells #[.int .i64 0, .string { data := #[] }, .string { data := #[] }, .string { data := #[] }] 29))
                        have hbD := Bk.new w6 29 #[.int .i64 0, .string { data := #[] }, .string { data := #[] }, .string { data := #[] }]
                        have hgw : B4 ≤ w6.heap.size := hPB4 _ hP6
                        generalize (w6.alloc (.cells #[.int .i64 0, .string { data := #[] }, .string { data := #[] }, .string { data := #[] }] 29)) = WD at hPD hbD ⊢
                        generalize w6.heap.size = gD at hbD hgw ⊢
                        clear hP6
                        have hHeld := hPD
                        obtain ⟨z0, z1, z2, z3, f0, f1, f2, f3⟩ := cells5 hbD
                        have hgl2 := hbD.lt
                        have hPS : P4 ((((WD.setCell ⟨gD, 0, none⟩ (.int .i64 zi)).setCell ⟨gD, 1, none⟩ (.string zp)).setCell ⟨gD, 2, none⟩ (.string zc)).setCell ⟨gD, 3, none⟩ (.string zx)) := kP4 _ _ hPD (below5 (Below.refl _ _) hgw)
                        have hbS := store5 (x0 := .int .i64 zi) (x1 := .string zp) (x2 := .string zc) (x3 := .string zx) hbD
                        refine wpAnyH_ready (rs := [10]) (by kernel_rfl) (by simp) ?_
                        refine AllReadyH.cons (o := { dst := none, op := Op.store 29 (Operand.tmp 22) (Operand.tmp 209), type := 0, pos := "law.go:428", after := #[{ on := 9, ground := Ground.data }, { on := 7, ground := Ground.data }, { on := 5, ground := Ground.chain }, { on := 0, ground := Ground.phase }, { on := 1, ground := Ground.phase }, { on := 2, ground := Ground.phase }, { on := 3, ground := Ground.phase }, { on := 4, ground := Ground.phase }, { on := 5, ground := Ground.phase }, { on := 6, ground := Ground.phase }, { on := 7, ground := Ground.phase }, { on := 8, ground := Ground.textOnly Departure.lateStores }, { on := 9, ground := Ground.phase }], guard := none }) rfl (fun K hK => ?_) AllReadyH.nil
                        go_simp
                        refine hK.out _ _ (hPS) (fun hHeld => ?_)
                        clear hK K
                        try simp only [Act.put, s1, s2, s3]
                        clear hHeld
                        refine wpAnyH_ready (rs := [11]) (by kernel_rfl) (by simp) ?_
                        refine AllReadyH.cons (o := { dst := some 23, op := Op.assign (Operand.tmp 210), type := 30, pos := "law.go:428", after := #[{ on := 8, ground := Ground.data }, { on := 10, ground := Ground.chain }, { on := 0, ground := Ground.phase }, { on := 1, ground := Ground.phase }, { on := 2, ground := Ground.phase }, { on := 3, ground := Ground.phase }, { on := 4, ground := Ground.phase }, { on := 5, ground := Ground.phase }, { on := 6, ground := Ground.phase }, { on := 7, ground := Ground.phase }, { on := 8, ground := Ground.phase }, { on := 9, ground := Ground.phase }, { on := 10, ground := Ground.phase }], guard := none }) rfl (fun K hK => ?_) AllReadyH.nil
                        go_simp
                        refine hK.out _ _ (hPS) (fun hHeld => ?_)
                        clear hK K
                        try simp only [Act.put, s1, s2, s3]
                        clear hHeld
                        refine wpAnyH_done (by kernel_rfl) ?_ _
                        clear z0 z1 z2 z3 f0 f1 f2 f3 hgl2 hPD hbD
                        generalize ((((WD.setCell ⟨gD, 0, none⟩ (.int .i64 zi)).setCell ⟨gD, 1, none⟩ (.string zp)).setCell ⟨gD, 2, none⟩ (.string zc)).setCell ⟨gD, 3, none⟩ (.string zx)) = WS at hPS hbS ⊢
                        go_wp2_with fail
                        go_meet
                        exact ⟨rfl, hPS, gD, rfl, hbS⟩
                       ·
                        go_simp
                        refine hK.out _ _ (kK4 _ _ hP5 (bt_new _ _)) (fun hHeld => ?_)
                        clear hK K hHeld
                        try simp only [Act.put, s1, s2, s3]
                        have hPD5 := kK4 _ _ hP5 (bt_new w5 (.cells #[.int .i64 0, .string { data := #[] }, .string { data := #[] }, .string { data := #[] }] 29))
                        have hbD5 := Bk.new w5 29 #[.int .i64 0, .string { data := #[] }, .string { data := #[] }, .string { data := #[] }]
                        have hgw : B4 ≤ w5.heap.size := hPB4 _ hP5
                        have hr5' := hr5.below (bt_new w5 (.cells #[.int .i64 0, .string { data := #[] }, .string { data := #[] }, .string { data := #[] }] 29))
                        generalize (w5.alloc (.cells #[.int .i64 0, .string { data := #[] }, .string { data := #[] }, .string { data := #[] }] 29)) = WE at hPD5 hbD5 hr5' ⊢
                        generalize w5.heap.size = gD at hbD5 hgw ⊢
                        clear hP5 hr5
                        refine wpAnyH_ready (rs := [5]) (by kernel_rfl) (by simp) ?_
                        refine AllReadyH.cons (o := { dst := some 208, op := Op.call { callee := Callee.value (Operand.func 14), args := #[Operand.tmp 203, Operand.tmp 204, Operand.tmp 207], argTypes := #[33, 3, 26] }, type := 31, pos := "law.go:428", after := #[{ on := 0, ground := Ground.data }, { on := 1, ground := Ground.data }, { on := 4, ground := Ground.data }, { on := 4, ground := Ground.chain }], guard := none }) rfl (fun K hK => ?_) AllReadyH.nil
                        go_simp
                        go_at_call 14
                        refine (H23.out _ _ _ hr5').mono ?_
                        rintro e w6 ⟨rfl, hb⟩
                        go_wp2_with fail
                        refine hK.out _ _ (kK4 _ _ hPD5 hb) (fun hHeld => ?_)
                        clear hK K hHeld
                        try simp only [Act.put, s1, s2, s3]
                        have hPD := kK4 _ _ hPD5 hb
                        have hbD := hbD5.below hb hbD5.lt
                        clear hb hr5' hPD5 hbD5
                        generalize w6 = WD at hPD hbD ⊢
                        have hHeld := hPD
                        refine' tk5 (i := 6) (oi := { dst := some 202, op := Op.move (Operand.tmp 208), type := 31, pos := "law.go:428", after := #[{ on := 5, ground := Ground.data }], guard := none }) rfl ?hy76 (by assumption) ?rest76
                        case hy76 => (intro W hSW; (try dsimp only at hSW); go_simp; with_reducible rfl)
                        try simp only [Act.put, s1, s2, s3]
                        refine' tk5 (i := 7) (oi := { dst := some 209, op := Op.extract (Operand.tmp 202) 0, type := 29, pos := "law.go:428", after := #[{ on := 6, ground := Ground.data }], guard := none }) rfl ?hy77 (by assumption) ?rest77
                        case hy77 => (intro W hSW; (try dsimp only at hSW); go_simp; with_reducible rfl)
                        try simp only [Act.put, s1, s2, s3]
                        refine' tk5 (i := 8) (oi := { dst := some 210, op := Op.extract (Operand.tmp 202) 1, type := 30, pos := "law.go:428", after := #[{ on := 6, ground := Ground.data }, { on := 10, ground := Ground.gcOnly Departure.lateStores }], guard := none }) rfl ?hy78 (by assumption) ?rest78
                        case hy78 => (intro W hSW; (try dsimp only at hSW); go_simp; with_reducible rfl)
                        try simp only [Act.put, s1, s2, s3]
                        obtain ⟨z0, z1, z2, z3, f0, f1, f2, f3⟩ := cells5 hbD
                        have hgl2 := hbD.lt
                        have hPS : P4 ((((WD.setCell ⟨gD, 0, none⟩ (.int .i64 zi)).setCell ⟨gD, 1, none⟩ (.string zp)).setCell ⟨gD, 2, none⟩ (.string zc)).setCell ⟨gD, 3, none⟩ (.string zx)) := kP4 _ _ hPD (below5 (Below.refl _ _) hgw)
                        have hbS := store5 (x0 := .int .i64 zi) (x1 := .string zp) (x2 := .string zc) (x3 := .string zx) hbD
                        refine wpAnyH_ready (rs := [10]) (by kernel_rfl) (by simp) ?_
                        refine AllReadyH.cons (o := { dst := none, op := Op.store 29 (Operand.tmp 22) (Operand.tmp 209), type := 0, pos := "law.go:428", after := #[{ on := 9, ground := Ground.data }, { on := 7, ground := Ground.data }, { on := 5, ground := Ground.chain }, { on := 0, ground := Ground.phase }, { on := 1, ground := Ground.phase }, { on := 2, ground := Ground.phase }, { on := 3, ground := Ground.phase }, { on := 4, ground := Ground.phase }, { on := 5, ground := Ground.phase }, { on := 6, ground := Ground.phase }, { on := 7, ground := Ground.phase }, { on := 8, ground := Ground.textOnly Departure.lateStores }, { on := 9, ground := Ground.phase }], guard := none }) rfl (fun K hK => ?_) AllReadyH.nil
                        go_simp
                        refine hK.out _ _ (hPS) (fun hHeld => ?_)
                        clear hK K
                        try simp only [Act.put, s1, s2, s3]
                        clear hHeld
                        refine wpAnyH_ready (rs := [11]) (by kernel_rfl) (by simp) ?_
                        refine AllReadyH.cons (o := { dst := some 23, op := Op.assign (Operand.tmp 210), type := 30, pos := "law.go:428", after := #[{ on := 8, ground := Ground.data }, { on := 10, ground := Ground.chain }, { on := 0, ground := Ground.phase }, { on := 1, ground := Ground.phase }, { on := 2, ground := Ground.phase }, { on := 3, ground := Ground.phase }, { on := 4, ground := Ground.phase }, { on := 5, ground := Ground.phase }, { on := 6, ground := Ground.phase }, { on := 7, ground := Ground.phase }, { on := 8, ground := Ground.phase }, { on := 9, ground := Ground.phase }, { on := 10, ground := Ground.phase }], guard := none }) rfl (fun K hK => ?_) AllReadyH.nil
                        go_simp
                        refine hK.out _ _ (hPS) (fun hHeld => ?_)
                        clear hK K
                        try simp only [Act.put, s1, s2, s3]
                        clear hHeld
                        refine wpAnyH_done (by kernel_rfl) ?_ _
                        clear z0 z1 z2 z3 f0 f1 f2 f3 hgl2 hPD hbD
                        generalize ((((WD.setCell ⟨gD, 0, none⟩ (.int .i64 zi)).setCell ⟨gD, 1, none⟩ (.string zp)).setCell ⟨gD, 2, none⟩ (.string zc)).setCell ⟨gD, 3, none⟩ (.string zx)) = WS at hPS hbS ⊢
                        go_wp2_with fail
                        go_meet
                        exact ⟨rfl, hPS, gD, rfl, hbS⟩
                      ·
                       go_simp
                       refine hK.out _ _ hPED (fun hHeld => ?_)
                       clear hK K hHeld
                       try simp only [Act.put, s1, s2, s3]
                       have hbE : Bk ((W7.alloc (.cells #[] 9)).alloc (.cells #[.int .i64 0, .string { data := #[] }, .string { data := #[] }, .string { data := #[] }] 29)).drew (W7.heap.size + 1) 29 #[.int .i64 0, .string { data := #[] }, .string { data := #[] }, .string { data := #[] }] := by
                        have := Bk.new (W7.alloc (.cells #[] 9)) 29 #[.int .i64 0, .string { data := #[] }, .string { data := #[] }, .string { data := #[] }]
                        rw [World.size_alloc] at this
                        exact this
                       have hgw : B4 ≤ W7.heap.size + 1 := by omega
                       refine wpAnyH_ready (rs := [4]) (by kernel_rfl) (by simp) ?_
                       refine AllReadyH.cons (o := { dst := some 207, op := Op.call { callee := Callee.builtin Builtin.append, args := #[Operand.tmp 205, Operand.tmp 206], argTypes := #[26, 26] }, type := 26, pos := "law.go:428", after := #[{ on := 2, ground := Ground.data }, { on := 3, ground := Ground.data }], guard := none }) rfl (fun K hK => ?_) AllReadyH.nil
                       refine step_app5 rfl _ _ rfl _ rfl (some ⟨g21, 0, none⟩) (j + 1) c21 (names.take j ++ [p]) rfl W7.heap.size hownED Hl1.out ((fun X h => (oP4.out X h).2) _ hPED) (fun e => by cases e) (by omega) (by simp; omega) ?_
                       intro A5 c5 w5 ho5 hg5
                       have hr5 := rd_own5 ho5
                       have hbl5 : Below W7.heap.size W7 w5 := (bt_drew (bt_alloc (bt_new W7 (.cells #[] 9)) (.cells #[.int .i64 0, .string { data := #[] }, .string { data := #[] }, .string { data := #[] }] 29))).grown hg5 (by simp; omega) (fun q e => by have h9 := Option.some.inj (show some W7.heap.size = some q from e); omega)
                       have hP5 := kK4 _ _ hP4 hbl5
                       have hbD5 : Bk w5 (W7.heap.size + 1) 29 #[.int .i64 0, .string { data := #[] }, .string { data := #[] }, .string { data := #[] }] := (hg5.block _ hbE.lt (fun e => by have h9 := Option.some.inj (show some (W7.heap.size + 1) = some W7.heap.size from e); omega)).trans hbE
                       refine hK.out _ _ hP5 (fun hHeld => ?_)
                       clear hK K hHeld
                       try simp only [Act.put, s1, s2, s3]
                       clear hbE hbl5 hg5 ho5
                       generalize W7.heap.size + 1 = gD at hbD5 hgw ⊢
                       refine wpAnyH_ready (rs := [5]) (by kernel_rfl) (by simp) ?_
                       refine AllReadyH.cons (o := { dst := some 208, op := Op.call { callee := Callee.value (Operand.func 14), args := #[Operand.tmp 203, Operand.tmp 204, Operand.tmp 207], argTypes := #[33, 3, 26] }, type := 31, pos := "law.go:428", after := #[{ on := 0, ground := Ground.data }, { on := 1, ground := Ground.data }, { on := 4, ground := Ground.data }, { on := 4, ground := Ground.chain }], guard := none }) rfl (fun K hK => ?_) AllReadyH.nil
                       go_simp
                       go_at_call 14
                       refine (H23.out _ _ _ hr5).mono ?_
                       rintro e w6 ⟨rfl, hb⟩
                       go_wp2_with fail
                       refine hK.out _ _ (kK4 _ _ hP5 hb) (fun hHeld => ?_)
                       clear hK K hHeld
                       try simp only [Act.put, s1, s2, s3]
                       have hPD := kK4 _ _ hP5 hb
                       have hbD := hbD5.below hb hbD5.lt
                       clear hb hr5 hP5 hbD5
                       generalize w6 = WD at hPD hbD ⊢
                       have hHeld := hPD
                       refine' tk5 (i := 6) (oi := { dst := some 202, op := Op.move (Operand.tmp 208), type := 31, pos := "law.go:428", after := #[{ on := 5, ground := Ground.data }], guard := none }) rfl ?hy79 (by assumption) ?rest79
                       case hy79 => (intro W hSW; (try dsimp only at hSW); go_simp; with_reducible rfl)
                       try simp only [Act.put, s1, s2, s3]
                       refine' tk5 (i := 7) (oi := { dst := some 209, op := Op.extract (Operand.tmp 202) 0, type := 29, pos := "law.go:428", after := #[{ on := 6, ground := Ground.data }], guard := none }) rfl ?hy80 (by assumption) ?rest80
                       case hy80 => (intro W hSW; (try dsimp only at hSW); go_simp; with_reducible rfl)
                       try simp only [Act.put, s1, s2, s3]
                       refine' tk5 (i := 8) (oi := { dst := some 210, op := Op.extract (Operand.tmp 202) 1, type := 30, pos := "law.go:428", after := #[{ on := 6, ground := Ground.data }, { on := 10, ground := Ground.gcOnly Departure.lateStores }], guard := none }) rfl ?hy81 (by assumption) ?rest81
                       case hy81 => (intro W hSW; (try dsimp only at hSW); go_simp; with_reducible rfl)
                       try simp only [Act.put, s1, s2, s3]
                       obtain ⟨z0, z1, z2, z3, f0, f1, f2, f3⟩ := cells5 hbD
                       have hgl2 := hbD.lt
                       have hPS : P4 ((((WD.setCell ⟨gD, 0, none⟩ (.int .i64 zi)).setCell ⟨gD, 1, none⟩ (.string zp)).setCell ⟨gD, 2, none⟩ (.string zc)).setCell ⟨gD, 3, none⟩ (.string zx)) := kP4 _ _ hPD (below5 (Below.refl _ _) hgw)
                       have hbS := store5 (x0 := .int .i64 zi) (x1 := .string zp) (x2 := .string zc) (x3 := .string zx) hbD
                       refine wpAnyH_ready (rs := [10]) (by kernel_rfl) (by simp) ?_
                       refine AllReadyH.cons (o := { dst := none, op := Op.store 29 (Operand.tmp 22) (Operand.tmp 209), type := 0, pos := "law.go:428", after := #[{ on := 9, ground := Ground.data }, { on := 7, ground := Ground.data }, { on := 5, ground := Ground.chain }, { on := 0, ground := Ground.phase }, { on := 1, ground := Ground.phase }, { on := 2, ground := Ground.phase }, { on := 3, ground := Ground.phase }, { on := 4, ground := Ground.phase }, { on := 5, ground := Ground.phase }, { on := 6, ground := Ground.phase }, { on := 7, ground := Ground.phase }, { on := 8, ground := Ground.textOnly Departure.lateStores }, { on := 9, ground := Ground.phase }], guard := none }) rfl (fun K hK => ?_) AllReadyH.nil
                       go_simp
                       refine hK.out _ _ (hPS) (fun hHeld => ?_)
                       clear hK K
                       try simp only [Act.put, s1, s2, s3]
                       clear hHeld
                       refine wpAnyH_ready (rs := [11]) (by kernel_rfl) (by simp) ?_
                       refine AllReadyH.cons (o := { dst := some 23, op := Op.assign (Operand.tmp 210), type := 30, pos := "law.go:428", after := #[{ on := 8, ground := Ground.data }, { on := 10, ground := Ground.chain }, { on := 0, ground := Ground.phase }, { on := 1, ground := Ground.phase }, { on := 2, ground := Ground.phase }, { on := 3, ground := Ground.phase }, { on := 4, ground := Ground.phase }, { on := 5, ground := Ground.phase }, { on := 6, ground := Ground.phase }, { on := 7, ground := Ground.phase }, { on := 8, ground := Ground.phase }, { on := 9, ground := Ground.phase }, { on := 10, ground := Ground.phase }], guard := none }) rfl (fun K hK => ?_) AllReadyH.nil
                       go_simp
                       refine hK.out _ _ (hPS) (fun hHeld => ?_)
                       clear hK K
                       try simp only [Act.put, s1, s2, s3]
                       clear hHeld
                       refine wpAnyH_done (by kernel_rfl) ?_ _
                       clear z0 z1 z2 z3 f0 f1 f2 f3 hgl2 hPD hbD
                       generalize ((((WD.setCell ⟨gD, 0, none⟩ (.int .i64 zi)).setCell ⟨gD, 1, none⟩ (.string zp)).setCell ⟨gD, 2, none⟩ (.string zc)).setCell ⟨gD, 3, none⟩ (.string zx)) = WS at hPS hbS ⊢
                       go_wp2_with fail
                       go_meet
                       exact ⟨rfl, hPS, gD, rfl, hbS⟩
                     ·
                      go_simp
                      refine hK.out _ _ hPDq (fun hHeld => ?_)
                      clear hK K hHeld
                      try simp only [Act.put, s1, s2, s3]
                      have hbE : Bk (W7.alloc (.cells #[.int .i64 0, .string { data := #[] }, .string { data := #[] }, .string { data := #[] }] 29)).drew W7.heap.size 29 #[.int .i64 0, .string { data := #[] }, .string { data := #[] }, .string { data := #[] }] := Bk.new W7 29 #[.int .i64 0, .string { data := #[] }, .string { data := #[] }, .string { data := #[] }]
                      have hgw : B4 ≤ W7.heap.size := hwl
                      generalize (W7.alloc (.cells #[.int .i64 0, .string { data := #[] }, .string { data := #[] }, .string { data := #[] }] 29)).drew = WE at hPDq hbE ⊢
                      generalize W7.heap.size = gD at hbE hgw ⊢
                      refine wpAnyH_ready (rs := [2]) (by kernel_rfl) (by simp) ?_
                      refine AllReadyH.cons (o := { dst := some 205, op := Op.buildSlice 26 0 #[], type := 26, pos := "law.go:428", after := #[], guard := none }) rfl (fun K hK => ?_) AllReadyH.nil
                      go_simp
                      refine hK.out _ _ ((kK4 _ _ hPDq (bt_new _ _))) (fun hHeld => ?_)
                      clear hK K
                      try simp only [Act.put, s1, s2, s3]
                      clear hHeld
                      have hown := World.ownsRow_made (base := WE.heap.size) (e := 9) (size := 1) WE #[] 0 (Nat.le_refl _) (Nat.zero_le _) rfl
                      have hgE := hbE.lt
                      refine wpAnyH_ready (rs := [4]) (by kernel_rfl) (by simp) ?_
                      refine AllReadyH.cons (o := { dst := some 207, op := Op.call { callee := Callee.builtin Builtin.append, args := #[Operand.tmp 205, Operand.tmp 206], argTypes := #[26, 26] }, type := 26, pos := "law.go:428", after := #[{ on := 2, ground := Ground.data }, { on := 3, ground := Ground.data }], guard := none }) rfl (fun K hK => ?_) AllReadyH.nil
                      refine step_app5 rfl _ _ rfl _ rfl (some ⟨g21, 0, none⟩) (j + 1) c21 (names.take j ++ [p]) rfl WE.heap.size hown Hl1.out ((fun X h => (oP4.out X h).2) _ (kK4 _ _ hPDq (bt_new _ _))) (fun e => by cases e) (by omega) (by simp) ?_
                      intro A5 c5 w5 ho5 hg5
                      have hr5 := rd_own5 ho5
                      have hbl5 : Below WE.heap.size WE w5 := (bt_new WE (.cells #[] 9)).grown hg5 (by simp) (fun q e => by have h9 := Option.some.inj (show some WE.heap.size = some q from e); omega)
                      have hP5 := kK4 _ _ hPDq hbl5
                      have hbD5 := hbE.below hbl5 hgE
                      refine hK.out _ _ hP5 (fun hHeld => ?_)
                      clear hK K hHeld
                      try simp only [Act.put, s1, s2, s3]
                      clear hown hbl5 hg5 hbE hgE ho5
                      refine wpAnyH_ready (rs := [5]) (by kernel_rfl) (by simp) ?_
                      refine AllReadyH.cons (o := { dst := some 208, op := Op.call { callee := Callee.value (Operand.func 14), args := #[Operand.tmp 203, Operand.tmp 204, Operand.tmp 207], argTypes := #[33, 3, 26] }, type := 31, pos := "law.go:428", after := #[{ on := 0, ground := Ground.data }, { on := 1, ground := Ground.data }, { on := 4, ground := Ground.data }, { on := 4, ground := Ground.chain }], guard := none }) rfl (fun K hK => ?_) AllReadyH.nil
                      go_simp
                      go_at_call 14
                      refine (H23.out _ _ _ hr5).mono ?_
                      rintro e w6 ⟨rfl, hb⟩
                      go_wp2_with fail
                      refine hK.out _ _ (kK4 _ _ hP5 hb) (fun hHeld => ?_)
                      clear hK K hHeld
                      try simp only [Act.put, s1, s2, s3]
                      have hPD := kK4 _ _ hP5 hb
                      have hbD := hbD5.below hb hbD5.lt
                      clear hb hr5 hP5 hbD5
                      generalize w6 = WD at hPD hbD ⊢
                      have hHeld := hPD
                      refine' tk5 (i := 6) (oi := { dst := some 202, op := Op.move (Operand.tmp 208), type := 31, pos := "law.go:428", after := #[{ on := 5, ground := Ground.data }], guard := none }) rfl ?hy82 (by assumption) ?rest82
                      case hy82 => (intro W hSW; (try dsimp only at hSW); go_simp; with_reducible rfl)
                      try simp only [Act.put, s1, s2, s3]
                      refine' tk5 (i := 7) (oi := { dst := some 209, op := Op.extract (Operand.tmp 202) 0, type := 29, pos := "law.go:428", after := #[{ on := 6, ground := Ground.data }], guard := none }) rfl ?hy83 (by assumption) ?rest83
                      case hy83 => (intro W hSW; (try dsimp only at hSW); go_simp; with_reducible rfl)
                      try simp only [Act.put, s1, s2, s3]
                      refine' tk5 (i := 8) (oi := { dst := some 210, op := Op.extract (Operand.tmp 202) 1, type := 30, pos := "law.go:428", after := #[{ on := 6, ground := Ground.data }, { on := 10, ground := Ground.gcOnly Departure.lateStores }], guard := none }) rfl ?hy84 (by assumption) ?rest84
                      case hy84 => (intro W hSW; (try dsimp only at hSW); go_simp; with_reducible rfl)
                      try simp only [Act.put, s1, s2, s3]
                      obtain ⟨z0, z1, z2, z3, f0, f1, f2, f3⟩ := cells5 hbD
                      have hgl2 := hbD.lt
                      have hPS : P4 ((((WD.setCell ⟨gD, 0, none⟩ (.int .i64 zi)).setCell ⟨gD, 1, none⟩ (.string zp)).setCell ⟨gD, 2, none⟩ (.string zc)).setCell ⟨gD, 3, none⟩ (.string zx)) := kP4 _ _ hPD (below5 (Below.refl _ _) hgw)
                      have hbS := store5 (x0 := .int .i64 zi) (x1 := .string zp) (x2 := .string zc) (x3 := .string zx) hbD
                      refine wpAnyH_ready (rs := [10]) (by kernel_rfl) (by simp) ?_
                      refine AllReadyH.cons (o := { dst := none, op := Op.store 29 (Operand.tmp 22) (Operand.tmp 209), type := 0, pos := "law.go:428", after := #[{ on := 9, ground := Ground.data }, { on := 7, ground := Ground.data }, { on := 5, ground := Ground.chain }, { on := 0, ground := Ground.phase }, { on := 1, ground := Ground.phase }, { on := 2, ground := Ground.phase }, { on := 3, ground := Ground.phase }, { on := 4, ground := Ground.phase }, { on := 5, ground := Ground.phase }, { on := 6, ground := Ground.phase }, { on := 7, ground := Ground.phase }, { on := 8, ground := Ground.textOnly Departure.lateStores }, { on := 9, ground := Ground.phase }], guard := none }) rfl (fun K hK => ?_) AllReadyH.nil
                      go_simp
                      refine hK.out _ _ (hPS) (fun hHeld => ?_)
                      clear hK K
                      try simp only [Act.put, s1, s2, s3]
                      clear hHeld
                      refine wpAnyH_ready (rs := [11]) (by kernel_rfl) (by simp) ?_
                      refine AllReadyH.cons (o := { dst := some 23, op := Op.assign (Operand.tmp 210), type := 30, pos := "law.go:428", after := #[{ on := 8, ground := Ground.data }, { on := 10, ground := Ground.chain }, { on := 0, ground := Ground.phase }, { on := 1, ground := Ground.phase }, { on := 2, ground := Ground.phase }, { on := 3, ground := Ground.phase }, { on := 4, ground := Ground.phase }, { on := 5, ground := Ground.phase }, { on := 6, ground := Ground.phase }, { on := 7, ground := Ground.phase }, { on := 8, ground := Ground.phase }, { on := 9, ground := Ground.phase }, { on := 10, ground := Ground.phase }], guard := none }) rfl (fun K hK => ?_) AllReadyH.nil
                      go_simp
                      refine hK.out _ _ (hPS) (fun hHeld => ?_)
                      clear hK K
                      try simp only [Act.put, s1, s2, s3]
                      clear hHeld
                      refine wpAnyH_done (by kernel_rfl) ?_ _
                      clear z0 z1 z2 z3 f0 f1 f2 f3 hgl2 hPD hbD
                      generalize ((((WD.setCell ⟨gD, 0, none⟩ (.int .i64 zi)).setCell ⟨gD, 1, none⟩ (.string zp)).setCell ⟨gD, 2, none⟩ (.string zc)).setCell ⟨gD, 3, none⟩ (.string zx)) = WS at hPS hbS ⊢
                      go_wp2_with fail
                      go_meet
                      exact ⟨rfl, hPS, gD, rfl, hbS⟩
                   case rest =>
                    obtain ⟨rfl, hPc, g22, rfl, _⟩ := hcut
                    clear hP4 H23
                    revert hPc
                    generalize wc = W8
                    intro hP8
                    have HS24 : Hid (∀ X, P4 X → X.cell? ⟨g17, 3, none⟩ = some (.string nx)) := fun X h => (HC.out X (oP4.out X h).1).1.2.2.2.2
                    go_upto_region 24 with fail
                    go_cut [24] from 32 (fun s24 wr => P4 wr ∧ ∃ g' c', s24 = .slice (some ⟨g', 0, none⟩) (j + 1 + 1) c' ∧ Rd wr (some ⟨g', 0, none⟩) ((names.take j ++ [p] ++ [nx]).map .string))
                    case first =>
                     as_aux_lemma =>
                      have hP0 : P4 W8.drew := kK4 _ _ hP8 (bt_drew (Below.refl _ W8))
                      have hPE : P4 (W8.alloc (.cells #[] 9)).drew := kK4 _ _ hP8 (bt_drew (bt_new W8 (.cells #[] 9)))
                      have hPN : P4 (W8.alloc (.cells #[.string nx] 9)).drew := kK4 _ _ hP8 (bt_drew (bt_new W8 _))
                      have hPEN : P4 ((W8.alloc (.cells #[] 9)).alloc (.cells #[.string nx] 9)).drew := kK4 _ _ hP8 (bt_drew (bt_alloc (bt_new W8 _) _))
                      have hownE : (W8.alloc (.cells #[] 9)).drew.ownsRow W8.heap.size 9 1 (.slice (some ⟨W8.heap.size, 0, none⟩) 0 0) 0 [] := World.ownsRow_made W8 #[] 0 (Nat.le_refl _) (Nat.zero_le _) rfl
                      have hownEN : ((W8.alloc (.cells #[] 9)).alloc (.cells #[.string nx] 9)).drew.ownsRow W8.heap.size 9 1 (.slice (some ⟨W8.heap.size, 0, none⟩) 0 0) 0 [] := World.ownsRow.alloc (World.ownsRow_made W8 #[] 0 (Nat.le_refl _) (Nat.zero_le _) rfl) _
                      have hBE : B4 ≤ W8.heap.size := hPB4 _ hP8
                      refine wp_region_held_drew (S := fun W => W.cell? ⟨g17, 3, none⟩ = some (.string nx)) (by kernel_rfl) (HS24.out _ hP0) (fun hHeld => ?_)
                      refine' tk5 (i := 1) (oi := { dst := some 212, op := Op.move (Operand.tmp 21), type := 26, pos := "law.go:429", after := #[], guard := none }) rfl ?hy85 (by assumption) ?rest85
                      case hy85 => (intro W hSW; (try dsimp only at hSW); go_simp; with_reducible rfl)
                      try simp only [Act.put, s1, s2, s3]
                      refine' tk5 (i := 3) (oi := { dst := some 214, op := Op.fieldAddr 29 (Operand.tmp 17) 3, type := 0, pos := "law.go:429", after := #[], guard := none }) rfl ?hy86 (by assumption) ?rest86
                      case hy86 => (intro W hSW; (try dsimp only at hSW); go_simp; with_reducible rfl)
                      try simp only [Act.put, s1, s2, s3]
                      refine' tk5 (i := 4) (oi := { dst := some 215, op := Op.load 9 (Operand.tmp 214), type := 9, pos := "law.go:429", after := #[{ on := 3, ground := Ground.data }], guard := none }) rfl ?hy87 (by assumption) ?rest87
                      case hy87 => (intro W hSW; (try dsimp only at hSW); go_simp; with_reducible rfl)
                      try simp only [Act.put, s1, s2, s3]
                      refine wpAnyH_ready (rs := [0, 5]) (by kernel_rfl) (by simp) ?_
                      refine AllReadyH.cons (o := { dst := some 211, op := Op.buildSlice 26 0 #[], type := 26, pos := "law.go:429", after := #[], guard := none }) rfl (fun K hK => ?_) (AllReadyH.cons (o := { dst := some 216, op := Op.buildSlice 26 1 #[(0, Operand.tmp 215)], type := 26, pos := "law.go:429", after := #[{ on := 4, ground := Ground.data }], guard := none }) rfl (fun K hK => ?_) AllReadyH.nil)
                      ·
                       go_simp
                       refine hK.out _ _ (HS24.out _ hPE) (fun hHeld => ?_)
                       clear hK K hHeld
                       try simp only [Act.put, s1, s2, s3]
                       refine wpAnyH_ready (rs := [2, 5]) (by kernel_rfl) (by simp) ?_
                       refine AllReadyH.cons (o := { dst := some 213, op := Op.call { callee := Callee.builtin Builtin.append, args := #[Operand.tmp 211, Operand.tmp 212], argTypes := #[26, 26] }, type := 26, pos := "law.go:429", after := #[{ on := 0, ground := Ground.data }, { on := 1, ground := Ground.data }], guard := none }) rfl (fun K hK => ?_) (AllReadyH.cons (o := { dst := some 216, op := Op.buildSlice 26 1 #[(0, Operand.tmp 215)], type := 26, pos := "law.go:429", after := #[{ on := 4, ground := Ground.data }], guard := none }) rfl (fun K hK => ?_) AllReadyH.nil)
                       ·
                        refine step_app5 rfl _ _ rfl _ rfl (some ⟨g21, 0, none⟩) (j + 1) c21 (names.take j ++ [p]) rfl W8.heap.size hownE Hl1.out ((fun X h => (oP4.out X h).2) _ hPE) (fun e => by cases e) (by omega) (by simp) ?_
                        intro A5 c5 w5 ho5 hg5
                        have hbl5 : Below W8.heap.size W8 w5 := (bt_drew (bt_new W8 (.cells #[] 9))).grown hg5 (by simp) (fun q e => by have h9 := Option.some.inj (show some W8.heap.size = some q from e); omega)
                        have hP5 := kK4 _ _ hP8 hbl5
                        have hsz5 := hbl5.size
                        refine hK.out _ _ (HS24.out _ hP5) (fun hHeld => ?_)
                        clear hK K hHeld hbl5 hg5
                        try simp only [Act.put, s1, s2, s3]
                        refine wpAnyH_ready (rs := [5]) (by kernel_rfl) (by simp) ?_
                        refine AllReadyH.cons (o := { dst := some 216, op := Op.buildSlice 26 1 #[(0, Operand.tmp 215)], type := 26, pos := "law.go:429", after := #[{ on := 4, ground := Ground.data }], guard := none }) rfl (fun K hK => ?_) AllReadyH.nil
                        go_simp
                        refine hK.out _ _ (HS24.out _ (kK4 _ _ hP5 (bt_new _ _))) (fun hHeld => ?_)
                        clear hK K
                        try simp only [Act.put, s1, s2, s3]
                        clear hHeld
                        have hPX := kK4 _ _ hP5 (bt_new w5 (.cells #[.string nx] 9))
                        have hnew := news5 (Bk.new w5 9 #[.string nx])
                        have hoX := World.ownsRow.alloc ho5 (.cells #[.string nx] 9)
                        have hbX : W8.heap.size ≤ (w5.alloc (.cells #[.string nx] 9)).heap.size := by simp; omega
                        clear hP5 ho5 hPE hPN hPEN hownE hownEN hP0
                        generalize (w5.alloc (.cells #[.string nx] 9)) = WX at hPX hoX hbX hnew ⊢
                        generalize w5.heap.size = gN at hnew hsz5 ⊢
                        generalize W8.heap.size = gE at hoX hbX hBE
                        refine wpAnyH_ready (rs := [6]) (by kernel_rfl) (by simp) ?_
                        refine AllReadyH.cons (o := { dst := some 217, op := Op.call { callee := Callee.builtin Builtin.append, args := #[Operand.tmp 213, Operand.tmp 216], argTypes := #[26, 26] }, type := 26, pos := "law.go:429", after := #[{ on := 2, ground := Ground.data }, { on := 5, ground := Ground.data }, { on := 2, ground := Ground.chain }], guard := none }) rfl (fun K hK => ?_) AllReadyH.nil
                        refine step_append_lies _ rfl _ _ 26 rfl gE 9 i0 (.string { data := #[] }) 1 16 Tryz.underlying26 hi hz0 hz1 hz2 rfl (by decide) _ _ _ rfl hoX ⟨gN, 0, none⟩ 1 1 [.string nx] rfl rfl hnew (strs_oneCell [nx]) (by decide) (by unfold maxLen; omega) (by omega) hbX _ rfl ?_
                        intro g7 c7 w7 ho7 hg7 hat7 hlt7
                        have hP7 : P4 w7 := kP4 _ _ hPX ((Below.refl B4 WX).grown hg7 (hPB4 _ hPX) (fun q e => Nat.le_trans hBE ((hoX.lt _ e).1)))
                        refine hK.out _ _ (HS24.out _ hP7) (fun hHeld => ?_)
                        clear hK K
                        try simp only [Act.put, s1, s2, s3]
                        refine wpAnyH_ready (rs := [7]) (by kernel_rfl) (by simp) ?_
                        refine AllReadyH.cons (o := { dst := some 24, op := Op.assign (Operand.tmp 217), type := 26, pos := "law.go:429", after := #[{ on := 6, ground := Ground.data }, { on := 6, ground := Ground.chain }, { on := 0, ground := Ground.phase }, { on := 1, ground := Ground.phase }, { on := 2, ground := Ground.phase }, { on := 3, ground := Ground.phase }, { on := 4, ground := Ground.phase }, { on := 5, ground := Ground.phase }, { on := 6, ground := Ground.phase }], guard := none }) rfl (fun K hK => ?_) AllReadyH.nil
                        go_simp
                        refine hK.out _ _ (hHeld) (fun hHeld => ?_)
                        clear hK K
                        try simp only [Act.put, s1, s2, s3]
                        refine wpAnyH_done (by kernel_rfl) ?_ _
                        go_wp2_with fail
                        go_meet
                        exact ⟨hP7, g7, c7, rfl, by rw [List.map_append]; exact rd_own5 ho7⟩
                       ·
                        go_simp
                        refine hK.out _ _ (HS24.out _ hPEN) (fun hHeld => ?_)
                        clear hK K hHeld
                        try simp only [Act.put, s1, s2, s3]
                        have hbN : Bk ((W8.alloc (.cells #[] 9)).alloc (.cells #[.string nx] 9)).drew (W8.heap.size + 1) 9 #[.string nx] := by
                         have := Bk.new (W8.alloc (.cells #[] 9)) 9 #[.string nx]
                         rw [World.size_alloc] at this
                         exact this
                        refine wpAnyH_ready (rs := [2]) (by kernel_rfl) (by simp) ?_
                        refine AllReadyH.cons (o := { dst := some 213, op := Op.call { callee := Callee.builtin Builtin.append, args := #[Operand.tmp 211, Operand.tmp 212], argTypes := #[26, 26] }, type := 26, pos := "law.go:429", after := #[{ on := 0, ground := Ground.data }, { on := 1, ground := Ground.data }], guard := none }) rfl (fun K hK => ?_) AllReadyH.nil
                        refine step_app5 rfl _ _ rfl _ rfl (some ⟨g21, 0, none⟩) (j + 1) c21 (names.take j ++ [p]) rfl W8.heap.size hownEN Hl1.out ((fun X h => (oP4.out X h).2) _ hPEN) (fun e => by cases e) (by omega) (by simp; omega) ?_
                        intro A5 c5 w5 ho5 hg5
                        have hbl5 : Below W8.heap.size W8 w5 := (bt_drew (bt_alloc (bt_new W8 (.cells #[] 9)) (.cells #[.string nx] 9))).grown hg5 (by simp; omega) (fun q e => by have h9 := Option.some.inj (show some W8.heap.size = some q from e); omega)
                        have hPX := kK4 _ _ hP8 hbl5
                        have hbX : W8.heap.size ≤ w5.heap.size := hbl5.size
                        have hnew := news5 ((hg5.block _ hbN.lt (fun e => by have h9 := Option.some.inj (show some (W8.heap.size + 1) = some W8.heap.size from e); omega)).trans hbN)
                        have hoX := ho5
                        refine hK.out _ _ (HS24.out _ hPX) (fun hHeld => ?_)
                        clear hK K hHeld hbN hbl5 hg5 ho5 hPE hPN hPEN hownE hownEN hP0
                        try simp only [Act.put, s1, s2, s3]
                        generalize w5 = WX at hPX hoX hbX hnew ⊢
                        generalize W8.heap.size + 1 = gN at hnew ⊢
                        generalize W8.heap.size = gE at hoX hbX hBE ⊢
                        refine wpAnyH_ready (rs := [6]) (by kernel_rfl) (by simp) ?_
                        refine AllReadyH.cons (o := { dst := some 217, op := Op.call { callee := Callee.builtin Builtin.append, args := #[Operand.tmp 213, Operand.tmp 216], argTypes := #[26, 26] }, type := 26, pos := "law.go:429", after := #[{ on := 2, ground := Ground.data }, { on := 5, ground := Ground.data }, { on := 2, ground := Ground.chain }], guard := none }) rfl (fun K hK => ?_) AllReadyH.nil
                        refine step_append_lies _ rfl _ _ 26 rfl gE 9 i0 (.string { data := #[] }) 1 16 Tryz.underlying26 hi hz0 hz1 hz2 rfl (by decide) _ _ _ rfl hoX ⟨gN, 0, none⟩ 1 1 [.string nx] rfl rfl hnew (strs_oneCell [nx]) (by decide) (by unfold maxLen; omega) (by omega) hbX _ rfl ?_
                        intro g7 c7 w7 ho7 hg7 hat7 hlt7
                        have hP7 : P4 w7 := kP4 _ _ hPX ((Below.refl B4 WX).grown hg7 (hPB4 _ hPX) (fun q e => Nat.le_trans hBE ((hoX.lt _ e).1)))
                        refine hK.out _ _ (HS24.out _ hP7) (fun hHeld => ?_)
                        clear hK K
                        try simp only [Act.put, s1, s2, s3]
                        refine wpAnyH_ready (rs := [7]) (by kernel_rfl) (by simp) ?_
                        refine AllReadyH.cons (o := { dst := some 24, op := Op.assign (Operand.tmp 217), type := 26, pos := "law.go:429", after := #[{ on := 6, ground := Ground.data }, { on := 6, ground := Ground.chain }, { on := 0, ground := Ground.phase }, { on := 1, ground := Ground.phase }, { on := 2, ground := Ground.phase }, { on := 3, ground := Ground.phase }, { on := 4, ground := Ground.phase }, { on := 5, ground := Ground.phase }, { on := 6, ground := Ground.phase }], guard := none }) rfl (fun K hK => ?_) AllReadyH.nil
                        go_simp
                        refine hK.out _ _ (hHeld) (fun hHeld => ?_)
                        clear hK K
                        try simp only [Act.put, s1, s2, s3]
                        refine wpAnyH_done (by kernel_rfl) ?_ _
                        go_wp2_with fail
                        go_meet
                        exact ⟨hP7, g7, c7, rfl, by rw [List.map_append]; exact rd_own5 ho7⟩
                      ·
                       go_simp
                       refine hK.out _ _ (HS24.out _ hPN) (fun hHeld => ?_)
                       clear hK K hHeld
                       try simp only [Act.put, s1, s2, s3]
                       have hbN : Bk (W8.alloc (.cells #[.string nx] 9)).drew W8.heap.size 9 #[.string nx] := Bk.new W8 9 #[.string nx]
                       clear hPE hPEN hownE hownEN hP0
                       generalize (W8.alloc (.cells #[.string nx] 9)).drew = WE at hPN hbN ⊢
                       generalize W8.heap.size = gN at hbN hBE ⊢
                       refine wpAnyH_ready (rs := [0]) (by kernel_rfl) (by simp) ?_
                       refine AllReadyH.cons (o := { dst := some 211, op := Op.buildSlice 26 0 #[], type := 26, pos := "law.go:429", after := #[], guard := none }) rfl (fun K hK => ?_) AllReadyH.nil
                       go_simp
                       refine hK.out _ _ (HS24.out _ (kK4 _ _ hPN (bt_new _ _))) (fun hHeld => ?_)
                       clear hK K
                       try simp only [Act.put, s1, s2, s3]
                       clear hHeld
                       have hown := World.ownsRow_made (base := WE.heap.size) (e := 9) (size := 1) WE #[] 0 (Nat.le_refl _) (Nat.zero_le _) rfl
                       refine wpAnyH_ready (rs := [2]) (by kernel_rfl) (by simp) ?_
                       refine AllReadyH.cons (o := { dst := some 213, op := Op.call { callee := Callee.builtin Builtin.append, args := #[Operand.tmp 211, Operand.tmp 212], argTypes := #[26, 26] }, type := 26, pos := "law.go:429", after := #[{ on := 0, ground := Ground.data }, { on := 1, ground := Ground.data }], guard := none }) rfl (fun K hK => ?_) AllReadyH.nil
                       refine step_app5 rfl _ _ rfl _ rfl (some ⟨g21, 0, none⟩) (j + 1) c21 (names.take j ++ [p]) rfl WE.heap.size hown Hl1.out ((fun X h => (oP4.out X h).2) _ (kK4 _ _ hPN (bt_new _ _))) (fun e => by cases e) (by omega) (by simp) ?_
                       intro A5 c5 w5 ho5 hg5
                       have hbl5 : Below WE.heap.size WE w5 := (bt_new WE (.cells #[] 9)).grown hg5 (by simp) (fun q e => by have h9 := Option.some.inj (show some WE.heap.size = some q from e); omega)
                       have hPX := kK4 _ _ hPN hbl5
                       have hbX : WE.heap.size ≤ w5.heap.size := hbl5.size
                       have hnew := news5 (hbN.below hbl5 hbN.lt)
                       have hoX := ho5
                       have hBE := hPB4 _ hPN
                       refine hK.out _ _ (HS24.out _ hPX) (fun hHeld => ?_)
                       clear hK K hHeld hown hbl5 hg5 ho5
                       try simp only [Act.put, s1, s2, s3]
                       generalize w5 = WX at hPX hoX hbX hnew ⊢
                       generalize WE.heap.size = gE at hoX hbX hBE ⊢
                       refine wpAnyH_ready (rs := [6]) (by kernel_rfl) (by simp) ?_
                       refine AllReadyH.cons (o := { dst := some 217, op := Op.call { callee := Callee.builtin Builtin.append, args := #[Operand.tmp 213, Operand.tmp 216], argTypes := #[26, 26] }, type := 26, pos := "law.go:429", after := #[{ on := 2, ground := Ground.data }, { on := 5, ground := Ground.data }, { on := 2, ground := Ground.chain }], guard := none }) rfl (fun K hK => ?_) AllReadyH.nil
                       refine step_append_lies _ rfl _ _ 26 rfl gE 9 i0 (.string { data := #[] }) 1 16 Tryz.underlying26 hi hz0 hz1 hz2 rfl (by decide) _ _ _ rfl hoX ⟨gN, 0, none⟩ 1 1 [.string nx] rfl rfl hnew (strs_oneCell [nx]) (by decide) (by unfold maxLen; omega) (by omega) hbX _ rfl ?_
                       intro g7 c7 w7 ho7 hg7 hat7 hlt7
                       have hP7 : P4 w7 := kP4 _ _ hPX ((Below.refl B4 WX).grown hg7 (hPB4 _ hPX) (fun q e => Nat.le_trans hBE ((hoX.lt _ e).1)))
                       refine hK.out _ _ (HS24.out _ hP7) (fun hHeld => ?_)
                       clear hK K
                       try simp only [Act.put, s1, s2, s3]
                       refine wpAnyH_ready (rs := [7]) (by kernel_rfl) (by simp) ?_
                       refine AllReadyH.cons (o := { dst := some 24, op := Op.assign (Operand.tmp 217), type := 26, pos := "law.go:429", after := #[{ on := 6, ground := Ground.data }, { on := 6, ground := Ground.chain }, { on := 0, ground := Ground.phase }, { on := 1, ground := Ground.phase }, { on := 2, ground := Ground.phase }, { on := 3, ground := Ground.phase }, { on := 4, ground := Ground.phase }, { on := 5, ground := Ground.phase }, { on := 6, ground := Ground.phase }], guard := none }) rfl (fun K hK => ?_) AllReadyH.nil
                       go_simp
                       refine hK.out _ _ (hHeld) (fun hHeld => ?_)
                       clear hK K
                       try simp only [Act.put, s1, s2, s3]
                       refine wpAnyH_done (by kernel_rfl) ?_ _
                       go_wp2_with fail
                       go_meet
                       exact ⟨hP7, g7, c7, rfl, by rw [List.map_append]; exact rd_own5 ho7⟩
                    case rest =>
                     obtain ⟨hPc, g24, c24, rfl, hr24⟩ := hcut
                     clear hP8 HS24
                     obtain ⟨P5, B5, kP5, hPB5, hP5, hBw5, oP5⟩ := pack5 (W := wc) (fun X => P4 X ∧ Rd X (some ⟨g24, 0, none⟩) ((names.take j ++ [p] ++ [nx]).map .string)) ⟨hPc, hr24⟩ (keepB_and (fun X Y h hb => kP4 X Y h (hb.mono (hPB4 _ hPc))) (keepB_rd hr24))
                     have kK5 : Keep P5 := fun X Y h hb => kP5 X Y h (hb.mono (hPB5 X h))
                     have HR5 : Hid (∀ X, P5 X → X.rangeAt gl 0 oc) := fun X h => HR4.out X (oP5.out X h).1
                     have Hl2 : Hid ((names.take j ++ [p] ++ [nx]).length = j + 1 + 1) := by show _ = _; rw [List.length_append, Hl1.out, List.length_singleton]
                     have H25 := Lib.hid (T.hd (names.take j ++ [p] ++ [nx]) (j + 1 + 1) zi zp zc zx 7 Hl2.out (by omega) (by rw [← hzz]; exact H2.out))
                     clear hPc hr24 hBw5
                     revert hP5
                     generalize wc = W9
                     intro hP5
                     as_aux_lemma =>
                      go_upto_region 25 with fail
                      go_cut [25, 26] from 32 (fun s25 s26 wr => s26 = .int .i64 7 ∧ P5 wr ∧ ∃ g, s25 = .pointer (some ⟨g, 0, none⟩) ∧ Bk wr g 29 #[.int .i64 zi, .string zp, .string zc, .string zx])
                      case first =>
                       as_aux_lemma =>
                        have hP0 : P5 W9.drew := kK5 _ _ hP5 (bt_drew (Below.refl _ W9))
                        have hPE : P5 (W9.alloc (.cells #[] 9)).drew := kK5 _ _ hP5 (bt_drew (bt_new W9 (.cells #[] 9)))
                        have hPDq : P5 (W9.alloc (.cells #[.int .i64 0, .string { data := #[] }, .string { data := #[] }, .string { data := #[] }] 29)).drew := kK5 _ _ hP5 (bt_drew (bt_new W9 _))
                        have hPED : P5 ((W9.alloc (.cells #[] 9)).alloc (.cells #[.int .i64 0, .string { data := #[] }, .string { data := #[] }, .string { data := #[] }] 29)).drew := kK5 _ _ hP5 (bt_drew (bt_alloc (bt_new W9 _) _))
                        have hownE : (W9.alloc (.cells #[] 9)).drew.ownsRow W9.heap.size 9 1 (.slice (some ⟨W9.heap.size, 0, none⟩) 0 0) 0 [] := World.ownsRow_made W9 #[] 0 (Nat.le_refl _) (Nat.zero_le _) rfl
                        have hownED : ((W9.alloc (.cells #[] 9)).alloc (.cells #[.int .i64 0, .string { data := #[] }, .string { data := #[] }, .string { data := #[] }] 29)).drew.ownsRow W9.heap.size 9 1 (.slice (some ⟨W9.heap.size, 0, none⟩) 0 0) 0 [] := World.ownsRow.alloc (World.ownsRow_made W9 #[] 0 (Nat.le_refl _) (Nat.zero_le _) rfl) _
                        have hwl : B5 ≤ W9.heap.size := hPB5 _ hP5
                        refine wp_region_held_drew (S := P5) (by kernel_rfl) (hP0) (fun hHeld => ?_)
                        refine' wpAnyH_take (i := 0) (oi := { dst := some 219, op := Op.load 33 (Operand.tmp 8), type := 33, pos := "law.go:430", after := #[], guard := none }) (v := _) rfl (by kernel_rfl) (by kernel_rfl) (by kernel_rfl) (fun _ _ _ h => h) (yieldsIf_load_mid (by kernel_rfl) _ _ rfl _ _ rfl (oc) _ (fun W h => HR5.out W h) Tryz.underlying33 rfl (T.l33)) (by assumption) ?rest88
                        try simp only [Act.put, s1, s2, s3]
                        refine' tk5 (i := 1) (oi := { dst := some 220, op := Op.move (Operand.tmp 7), type := 3, pos := "law.go:430", after := #[], guard := none }) rfl ?hy89 (by assumption) ?rest89
                        case hy89 => (intro W hSW; (try dsimp only at hSW); go_simp; with_reducible rfl)
                        try simp only [Act.put, s1, s2, s3]
                        refine' tk5 (i := 3) (oi := { dst := some 222, op := Op.move (Operand.tmp 24), type := 26, pos := "law.go:430", after := #[], guard := none }) rfl ?hy90 (by assumption) ?rest90
                        case hy90 => (intro W hSW; (try dsimp only at hSW); go_simp; with_reducible rfl)
                        try simp only [Act.put, s1, s2, s3]
                        refine wpAnyH_ready (rs := [2, 9]) (by kernel_rfl) (by simp) ?_
                        refine AllReadyH.cons (o := { dst := some 221, op := Op.buildSlice 26 0 #[], type := 26, pos := "law.go:430", after := #[], guard := none }) rfl (fun K hK => ?_) (AllReadyH.cons (o := { dst := some 25, op := Op.alloc 29, type := 0, pos := "law.go:430", after := #[], guard := none }) rfl (fun K hK => ?_) AllReadyH.nil)
                        ·
                         go_simp
                         refine hK.out _ _ hPE (fun hHeld => ?_)
                         clear hK K hHeld
                         try simp only [Act.put, s1, s2, s3]
                         refine wpAnyH_ready (rs := [4, 9]) (by kernel_rfl) (by simp) ?_
                         refine AllReadyH.cons (o := { dst := some 223, op := Op.call { callee := Callee.builtin Builtin.append, args := #[Operand.tmp 221, Operand.tmp 222], argTypes := #[26, 26] }, type := 26, pos := "law.go:430", after := #[{ on := 2, ground := Ground.data }, { on := 3, ground := Ground.data }], guard := none }) rfl (fun K hK => ?_) (AllReadyH.cons (o := { dst := some 25, op := Op.alloc 29, type := 0, pos := "law.go:430", after := #[], guard := none }) rfl (fun K hK => ?_) AllReadyH.nil)
                         ·
                          refine step_app5 rfl _ _ rfl _ rfl (some ⟨g24, 0, none⟩) (j + 1 + 1) c24 (names.take j ++ [p] ++ [nx]) rfl W9.heap.size hownE Hl2.out ((fun X h => (oP5.out X h).2) _ hPE) (fun e => by cases e) (by omega) (by simp) ?_
                          intro A5 c5 w5 ho5 hg5
                          have hr5 := rd_own5 ho5
                          have hbl5 : Below W9.heap.size W9 w5 := (bt_drew (bt_new W9 (.cells #[] 9))).grown hg5 (by simp) (fun q e => by have h9 := Option.some.inj (show some W9.heap.size = some q from e); omega)
                          have hP5 := kK5 _ _ hP5 hbl5
                          refine hK.out _ _ hP5 (fun hHeld => ?_)
                          clear hK K hHeld hbl5 hg5 ho5
                          try simp only [Act.put, s1, s2, s3]
                          refine wpAnyH_ready (rs := [5, 9]) (by kernel_rfl) (by simp) ?_
                          refine AllReadyH.cons (o := { dst := some 224, op := Op.call { callee := Callee.value (Operand.func 14), args := #[Operand.tmp 219, Operand.tmp 220, Operand.tmp 223], argTypes := #[33, 3, 26] }, type := 31, pos := "law.go:430", after := #[{ on := 0, ground := Ground.data }, { on := 1, ground := Ground.data }, { on := 4, ground := Ground.data }, { on := 4, ground := Ground.chain }], guard := none }) rfl (fun K hK => ?_) (AllReadyH.cons (o := { dst := some 25, op := Op.alloc 29, type := 0, pos := "law.go:430", after := #[], guard := none }) rfl (fun K hK => ?_) AllReadyH.nil)
                          ·
                           go_simp
                           go_at_call 14
                           refine (H25.out _ _ _ hr5).mono ?_
                           rintro e w6 ⟨rfl, hb⟩
                           go_wp2_with fail
                           refine hK.out _ _ (kK5 _ _ hP5 hb) (fun hHeld => ?_)
                           clear hK K hHeld
                           try simp only [Act.put, s1, s2, s3]
                           have hP6 := kK5 _ _ hP5 hb
                           clear hb hr5 hP5
                           have hHeld := hP6
                           refine' tk5 (i := 6) (oi := { dst := some 218, op := Op.move (Operand.tmp 224), type := 31, pos := "law.go:430", after := #[{ on := 5, ground := Ground.data }], guard := none }) rfl ?hy91 (by assumption) ?rest91
                           case hy91 => (intro W hSW; (try dsimp only at hSW); go_simp; with_reducible rfl)
                           try simp only [Act.put, s1, s2, s3]
                           refine' tk5 (i := 7) (oi := { dst := some 225, op := Op.extract (Operand.tmp 218) 0, type := 29, pos := "law.go:430", after := #[{ on := 6, ground := Ground.data }], guard := none }) rfl ?hy92 (by assumption) ?rest92
                           case hy92 => (intro W hSW; (try dsimp only at hSW); go_simp; with_reducible rfl)
                           try simp only [Act.put, s1, s2, s3]
                           refine' tk5 (i := 8) (oi := { dst := some 226, op := Op.extract (Operand.tmp 218) 1, type := 30, pos := "law.go:430", after := #[{ on := 6, ground := Ground.data }, { on := 10, ground := Ground.gcOnly Departure.lateStores }], guard := none }) rfl ?hy93 (by assumption) ?rest93
                           case hy93 => (intro W hSW; (try dsimp only at hSW); go_simp; with_reducible rfl)
                           try simp only [Act.put, s1, s2, s3]
                           clear hHeld
                           refine wpAnyH_ready (rs := [9]) (by kernel_rfl) (by simp) ?_
                           refine AllReadyH.cons (o := { dst := some 25, op := Op.alloc 29, type := 0, pos := "law.go:430", after := #[], guard := none }) rfl (fun K hK => ?_) AllReadyH.nil
                           go_simp
                           refine hK.out _ _ ((kK5 _ _ hP6 (bt_new _ _))) (fun hHeld => ?_)
                           clear hK K
                           try simp only [Act.put, s1, s2, s3]
                           clear hHeld
                           have hPD := kK5 _ _ hP6 (bt_new w6 (.cells #[.int .i64 0, .string { data := #[] }, .string { data := #[] }, .string { data := #[] }] 29))
                           have hbD := Bk.new w6 29 #[.int .i64 0, .string { data := #[] }, .string { data := #[] }, .string { data := #[] }]
                           have hgw : B5 ≤ w6.heap.size := hPB5 _ hP6
                           generalize (w6.alloc (.cells #[.int .i64 0, .string { data := #[] }, .string { data := #[] }, .string { data := #[] }] 29)) = WD at hPD hbD ⊢
                           generalize w6.heap.size = gD at hbD hgw ⊢
                           clear hP6
                           have hHeld := hPD
                           obtain ⟨z0, z1, z2, z3, f0, f1, f2, f3⟩ := cells5 hbD
                           have hgl2 := hbD.lt
                           have hPS : P5 ((((WD.setCell ⟨gD, 0, none⟩ (.int .i64 zi)).setCell ⟨gD, 1, none⟩ (.string zp)).setCell ⟨gD, 2, none⟩ (.string zc)).setCell ⟨gD, 3, none⟩ (.string zx)) := kP5 _ _ hPD (below5 (Below.refl _ _) hgw)
                           have hbS := store5 (x0 := .int .i64 zi) (x1 := .string zp) (x2 := .string zc) (x3 := .string zx) hbD
                           refine wpAnyH_ready (rs := [10]) (by kernel_rfl) (by simp) ?_
                           refine AllReadyH.cons (o := { dst := none, op := Op.store 29 (Operand.tmp 25) (Operand.tmp 225), type := 0, pos := "law.go:430", after := #[{ on := 9, ground := Ground.data }, { on := 7, ground := Ground.data }, { on := 5, ground := Ground.chain }, { on := 0, ground := Ground.phase }, { on := 1, ground := Ground.phase }, { on := 2, ground := Ground.phase }, { on := 3, ground := Ground.phase }, { on := 4, ground := Ground.phase }, { on := 5, ground := Ground.phase }, { on := 6, ground := Ground.phase }, { on := 7, ground := Ground.phase }, { on := 8, ground := Ground.textOnly Departure.lateStores }, { on := 9, ground := Ground.phase }], guard := none }) rfl (fun K hK => ?_) AllReadyH.nil
                           go_simp
                           refine hK.out _ _ (hPS) (fun hHeld => ?_)
                           clear hK K
                           try simp only [Act.put, s1, s2, s3]
                           clear hHeld
                           refine wpAnyH_ready (rs := [11]) (by kernel_rfl) (by simp) ?_
                           refine AllReadyH.cons (o := { dst := some 26, op := Op.assign (Operand.tmp 226), type := 30, pos := "law.go:430", after := #[{ on := 8, ground := Ground.data }, { on := 10, ground := Ground.chain }, { on := 0, ground := Ground.phase }, { on := 1, ground := Ground.phase }, { on := 2, ground := Ground.phase }, { on := 3, ground := Ground.phase }, { on := 4, ground := Ground.phase }, { on := 5, ground := Ground.phase }, { on := 6, ground := Ground.phase }, { on := 7, ground := Ground.phase }, { on := 8, ground := Ground.phase }, { on := 9, ground := Ground.phase }, { on := 10, ground := Ground.phase }], guard := none }) rfl (fun K hK => ?_) AllReadyH.nil
                           go_simp
                           refine hK.out _ _ (hPS) (fun hHeld => ?_)
                           clear hK K
                           try simp only [Act.put, s1, s2, s3]
                           clear hHeld
                           refine wpAnyH_done (by kernel_rfl) ?_ _
                           clear z0 z1 z2 z3 f0 f1 f2 f3 hgl2 hPD hbD
                           generalize ((((WD.setCell ⟨gD, 0, none⟩ (.int .i64 zi)).setCell ⟨gD, 1, none⟩ (.string zp)).setCell ⟨gD, 2, none⟩ (.string zc)).setCell ⟨gD, 3, none⟩ (.string zx)) = WS at hPS hbS ⊢
                           go_wp2_with fail
                           go_meet
                           exact ⟨rfl, hPS, gD, rfl, hbS⟩
                          ·
                           go_simp
                           refine hK.out _ _ (kK5 _ _ hP5 (bt_new _ _)) (fun hHeld => ?_)
                           clear hK K hHeld
                           try simp only [Act.put, s1, s2, s3]
                           have hPD5 := kK5 _ _ hP5 (bt_new w5 (.cells #[.int .i64 0, .string { data := #[] }, .string { data := #[] }, .string { data := #[] }] 29))
                           have hbD5 := Bk.new w5 29 #[.int .i64 0, .string { data := #[] }, .string { data := #[] }, .string { data := #[] }]
                           have hgw : B5 ≤ w5.heap.size := hPB5 _ hP5
                           have hr5' := hr5.below (bt_new w5 (.cells #[.int .i64 0, .string { data := #[] }, .string { data := #[] }, .string { data := #[] }] 29))
                           generalize (w5.alloc (.cells #[.int .i64 0, .string { data := #[] }, .string { data := #[] }, .string { data := #[] }] 29)) = WE at hPD5 hbD5 hr5' ⊢
                           generalize w5.heap.size = gD at hbD5 hgw ⊢
                           clear hP5 hr5
                           refine wpAnyH_ready (rs := [5]) (by kernel_rfl) (by simp) ?_
                           refine AllReadyH.cons (o := { dst := some 224, op := Op.call { callee := Callee.value (Operand.func 14), args := #[Operand.tmp 219, Operand.tmp 220, Operand.tmp 223], argTypes := #[33, 3, 26] }, type := 31, pos := "law.go:430", after := #[{ on := 0, ground := Ground.data }, { on := 1, ground := Ground.data }, { on := 4, ground := Ground.data }, { on := 4, ground := Ground.chain }], guard := none }) rfl (fun K hK => ?_) AllReadyH.nil
                           go_simp
                           go_at_call 14
                           refine (H25.out _ _ _ hr5').mono ?_
                           rintro e w6 ⟨rfl, hb⟩
                           go_wp2_with fail
                           refine hK.out _ _ (kK5 _ _ hPD5 hb) (fun hHeld => ?_)
                           clear hK K hHeld
                           try simp only [Act.put, s1, s2, s3]
                           have hPD := kK5 _ _ hPD5 hb
                           have hbD := hbD5.below hb hbD5.lt
                           clear hb hr5' hPD5 hbD5
                           generalize w6 = WD at hPD hbD ⊢
                           have hHeld := hPD
                           refine' tk5 (i := 6) (oi := { dst := some 218, op := Op.move (Operand.tmp 224), type := 31, pos := "law.go:430", after := #[{ on := 5, ground := Ground.data }], guard := none }) rfl ?hy94 (by assumption) ?rest94
                           case hy94 => (intro W hSW; (try dsimp only at hSW); go_simp; with_reducible rfl)
                           try simp only [Act.put, s1, s2, s3]
                           refine' tk5 (i := 7) (oi := { dst := some 225, op := Op.extract (Operand.tmp 218) 0, type := 29, pos := "law.go:430", after := #[{ on := 6, ground := Ground.data }], guard := none }) rfl ?hy95 (by assumption) ?rest95
                           case hy95 => (intro W hSW; (try dsimp only at hSW); go_simp; with_reducible rfl)
                           try simp only [Act.put, s1, s2, s3]
                           refine' tk5 (i := 8) (oi := { dst := some 226, op := Op.extract (Operand.tmp 218) 1, type := 30, pos := "law.go:430", after := #[{ on := 6, ground := Ground.data }, { on := 10, ground := Ground.gcOnly Departure.lateStores }], guard := none }) rfl ?hy96 (by assumption) ?rest96
                           case hy96 => (intro W hSW; (try dsimp only at hSW); go_simp; with_reducible rfl)
                           try simp only [Act.put, s1, s2, s3]
                           obtain ⟨z0, z1, z2, z3, f0, f1, f2, f3⟩ := cells5 hbD
                           have hgl2 := hbD.lt
                           have hPS : P5 ((((WD.setCell ⟨gD, 0, none⟩ (.int .i64 zi)).setCell ⟨gD, 1, none⟩ (.string zp)).setCell ⟨gD, 2, none⟩ (.string zc)).setCell ⟨gD, 3, none⟩ (.string zx)) := kP5 _ _ hPD (below5 (Below.refl _ _) hgw)
                           have hbS := store5 (x0 := .int .i64 zi) (x1 := .string zp) (x2 := .string zc) (x3 := .string zx) hbD
                           refine wpAnyH_ready (rs := [10]) (by kernel_rfl) (by simp) ?_
                           refine AllReadyH.cons (o := { dst := none, op := Op.store 29 (Operand.tmp 25) (Operand.tmp 225), type := 0, pos := "law.go:430", after := #[{ on := 9, ground := Ground.data }, { on := 7, ground := Ground.data }, { on := 5, ground := Ground.chain }, { on := 0, ground := Ground.phase }, { on := 1, ground := Ground.phase }, { on := 2, ground := Ground.phase }, { on := 3, ground := Ground.phase }, { on := 4, ground := Ground.phase }, { on := 5, ground := Ground.phase }, { on := 6, ground := Ground.phase }, { on := 7, ground := Ground.phase }, { on := 8, ground := Ground.textOnly Departure.lateStores }, { on := 9, ground := Ground.phase }], guard := none }) rfl (fun K hK => ?_) AllReadyH.nil
                           go_simp
                           refine hK.out _ _ (hPS) (fun hHeld => ?_)
                           clear hK K
                           try simp only [Act.put, s1, s2, s3]
                           clear hHeld
                           refine wpAnyH_ready (rs := [11]) (by kernel_rfl) (by simp) ?_
                           refine AllReadyH.cons (o := { dst := some 26, op := Op.assign (Operand.tmp 226), type := 30, pos := "law.go:430", after := #[{ on := 8, ground := Ground.data }, { on := 10, ground := Ground.chain }, { on := 0, ground := Ground.phase }, { on := 1, ground := Ground.phase }, { on := 2, ground := Ground.phase }, { on := 3, ground := Ground.phase }, { on := 4, ground := Ground.phase }, { on := 5, ground := Ground.phase }, { on := 6, ground := Ground.phase }, { on := 7, ground := Ground.phase }, { on := 8, ground := Ground.phase }, { on := 9, ground := Ground.phase }, { on := 10, ground := Ground.phase }], guard := none }) rfl (fun K hK => ?_) AllReadyH.nil
                           go_simp
                           refine hK.out _ _ (hPS) (fun hHeld => ?_)
                           clear hK K
                           try simp only [Act.put, s1, s2, s3]
                           clear hHeld
                           refine wpAnyH_done (by kernel_rfl) ?_ _
                           clear z0 z1 z2 z3 f0 f1 f2 f3 hgl2 hPD hbD
                           generalize ((((WD.setCell ⟨gD, 0, none⟩ (.int .i64 zi)).setCell ⟨gD, 1, none⟩ (.string zp)).setCell ⟨gD, 2, none⟩ (.string zc)).setCell ⟨gD, 3, none⟩ (.string zx)) = WS at hPS hbS ⊢
                           go_wp2_with fail
                           go_meet
                           exact ⟨rfl, hPS, gD, rfl, hbS⟩
                         ·
                          go_simp
                          refine hK.out _ _ hPED (fun hHeld => ?_)
                          clear hK K hHeld
                          try simp only [Act.put, s1, s2, s3]
                          have hbE : Bk ((W9.alloc (.cells #[] 9)).alloc (.cells #[.int .i64 0, .string { data := #[] }, .string { data := #[] }, .string { data := #[] }] 29)).drew (W9.heap.size + 1) 29 #[.int .i64 0, .string { data := #[] }, .string { data := #[] }, .string { data := #[] }] := by
                           have := Bk.new (W9.alloc (.cells #[] 9)) 29 #[.int .i64 0, .string { data := #[] }, .string { data := #[] }, .string { data := #[] }]
                           rw [World.size_alloc] at this
                           exact this
                          have hgw : B5 ≤ W9.heap.size + 1 := by omega
                          refine wpAnyH_ready (rs := [4]) (by kernel_rfl) (by simp) ?_
                          refine AllReadyH.cons (o := { dst := some 223, op := Op.call { callee := Callee.builtin Builtin.append, args := #[Operand.tmp 221, Operand.tmp 222], argTypes := #[26, 26] }, type := 26, pos := "law.go:430", after := #[{ on := 2, ground := Ground.data }, { on := 3, ground := Ground.data }], guard := none }) rfl (fun K hK => ?_) AllReadyH.nil
                          refine step_app5 rfl _ _ rfl _ rfl (some ⟨g24, 0, none⟩) (j + 1 + 1) c24 (names.take j ++ [p] ++ [nx]) rfl W9.heap.size hownED Hl2.out ((fun X h => (oP5.out X h).2) _ hPED) (fun e => by cases e) (by omega) (by simp; omega) ?_
                          intro A5 c5 w5 ho5 hg5
                          have hr5 := rd_own5 ho5
                          have hbl5 : Below W9.heap.size W9 w5 := (bt_drew (bt_alloc (bt_new W9 (.cells #[] 9)) (.cells #[.int .i64 0, .string { data := #[] }, .string { data := #[] }, .string { data := #[] }] 29))).grown hg5 (by simp; omega) (fun q e => by have h9 := Option.some.inj (show some W9.heap.size = some q from e); omega)
                          have hP5 := kK5 _ _ hP5 hbl5
                          have hbD5 : Bk w5 (W9.heap.size + 1) 29 #[.int .i64 0, .string { data := #[] }, .string { data := #[] }, .string { data := #[] }] := (hg5.block _ hbE.lt (fun e => by have h9 := Option.some.inj (show some (W9.heap.size + 1) = some W9.heap.size from e); omega)).trans hbE
                          refine hK.out _ _ hP5 (fun hHeld => ?_)
                          clear hK K hHeld
                          try simp only [Act.put, s1, s2, s3]
                          clear hbE hbl5 hg5 ho5
                          generalize W9.heap.size + 1 = gD at hbD5 hgw ⊢
                          refine wpAnyH_ready (rs := [5]) (by kernel_rfl) (by simp) ?_
                          refine AllReadyH.cons (o := { dst := some 224, op := Op.call { callee := Callee.value (Operand.func 14), args := #[Operand.tmp 219, Operand.tmp 220, Operand.tmp 223], argTypes := #[33, 3, 26] }, type := 31, pos := "law.go:430", after := #[{ on := 0, ground := Ground.data }, { on := 1, ground := Ground.data }, { on := 4, ground := Ground.data }, { on := 4, ground := Ground.chain }], guard := none }) rfl (fun K hK => ?_) AllReadyH.nil
                          go_simp
                          go_at_call 14
                          refine (H25.out _ _ _ hr5).mono ?_
                          rintro e w6 ⟨rfl, hb⟩
                          go_wp2_with fail
                          refine hK.out _ _ (kK5 _ _ hP5 hb) (fun hHeld => ?_)
                          clear hK K hHeld
                          try simp only [Act.put, s1, s2, s3]
                          have hPD := kK5 _ _ hP5 hb
                          have hbD := hbD5.below hb hbD5.lt
                          clear hb hr5 hP5 hbD5
                          generalize w6 = WD at hPD hbD ⊢
                          have hHeld := hPD
                          refine' tk5 (i := 6) (oi := { dst := some 218, op := Op.move (Operand.tmp 224), type := 31, pos := "law.go:430", after := #[{ on := 5, ground := Ground.data }], guard := none }) rfl ?hy97 (by assumption) ?rest97
                          case hy97 => (intro W hSW; (try dsimp only at hSW); go_simp; with_reducible rfl)
                          try simp only [Act.put, s1, s2, s3]
                          refine' tk5 (i := 7) (oi := { dst := some 225, op := Op.extract (Operand.tmp 218) 0, type := 29, pos := "law.go:430", after := #[{ on := 6, ground := Ground.data }], guard := none }) rfl ?hy98 (by assumption) ?rest98
                          case hy98 => (intro W hSW; (try dsimp only at hSW); go_simp; with_reducible rfl)
                          try simp only [Act.put, s1, s2, s3]
                          refine' tk5 (i := 8) (oi := { dst := some 226, op := Op.extract (Operand.tmp 218) 1, type := 30, pos := "law.go:430", after := #[{ on := 6, ground := Ground.data }, { on := 10, ground := Ground.gcOnly Departure.lateStores }], guard := none }) rfl ?hy99 (by assumption) ?rest99
                          case hy99 => (intro W hSW; (try dsimp only at hSW); go_simp; with_reducible rfl)
                          try simp only [Act.put, s1, s2, s3]
                          obtain ⟨z0, z1, z2, z3, f0, f1, f2, f3⟩ := cells5 hbD
                          have hgl2 := hbD.lt
                          have hPS : P5 ((((WD.setCell ⟨gD, 0, none⟩ (.int .i64 zi)).setCell ⟨gD, 1, none⟩ (.string zp)).setCell ⟨gD, 2, none⟩ (.string zc)).setCell ⟨gD, 3, none⟩ (.string zx)) := kP5 _ _ hPD (below5 (Below.refl _ _) hgw)
                          have hbS := store5 (x0 := .int .i64 zi) (x1 := .string zp) (x2 := .string zc) (x3 := .string zx) hbD
                          refine wpAnyH_ready (rs := [10]) (by kernel_rfl) (by simp) ?_
                          refine AllReadyH.cons (o := { dst := none, op := Op.store 29 (Operand.tmp 25) (Operand.tmp 225), type := 0, pos := "law.go:430", after := #[{ on := 9, ground := Ground.data }, { on := 7, ground := Ground.data }, { on := 5, ground := Ground.chain }, { on := 0, ground := Ground.phase }, { on := 1, ground := Ground.phase }, { on := 2, ground := Ground.phase }, { on := 3, ground := Ground.phase }, { on := 4, ground := Ground.phase }, { on := 5, ground := Ground.phase }, { on := 6, ground := Ground.phase }, { on := 7, ground := Ground.phase }, { on := 8, ground := Ground.textOnly Departure.lateStores }, { on := 9, ground := Ground.phase }], guard := none }) rfl (fun K hK => ?_) AllReadyH.nil
                          go_simp
                          refine hK.out _ _ (hPS) (fun hHeld => ?_)
                          clear hK K
                          try simp only [Act.put, s1, s2, s3]
                          clear hHeld
                          refine wpAnyH_ready (rs := [11]) (by kernel_rfl) (by simp) ?_
                          refine AllReadyH.cons (o := { dst := some 26, op := Op.assign (Operand.tmp 226), type := 30, pos := "law.go:430", after := #[{ on := 8, ground := Ground.data }, { on := 10, ground := Ground.chain }, { on := 0, ground := Ground.phase }, { on := 1, ground := Ground.phase }, { on := 2, ground := Ground.phase }, { on := 3, ground := Ground.phase }, { on := 4, ground := Ground.phase }, { on := 5, ground := Ground.phase }, { on := 6, ground := Ground.phase }, { on := 7, ground := Ground.phase }, { on := 8, ground := Ground.phase }, { on := 9, ground := Ground.phase }, { on := 10, ground := Ground.phase }], guard := none }) rfl (fun K hK => ?_) AllReadyH.nil
                          go_simp
                          refine hK.out _ _ (hPS) (fun hHeld => ?_)
                          clear hK K
                          try simp only [Act.put, s1, s2, s3]
                          clear hHeld
                          refine wpAnyH_done (by kernel_rfl) ?_ _
                          clear z0 z1 z2 z3 f0 f1 f2 f3 hgl2 hPD hbD
                          generalize ((((WD.setCell ⟨gD, 0, none⟩ (.int .i64 zi)).setCell ⟨gD, 1, none⟩ (.string zp)).setCell ⟨gD, 2, none⟩ (.string zc)).setCell ⟨gD, 3, none⟩ (.string zx)) = WS at hPS hbS ⊢
                          go_wp2_with fail
                          go_meet
                          exact ⟨rfl, hPS, gD, rfl, hbS⟩
                        ·
                         go_simp
                         refine hK.out _ _ hPDq (fun hHeld => ?_)
                         clear hK K hHeld
                         try simp only [Act.put, s1, s2, s3]
                         have hbE : Bk (W9.alloc (.cells #[.int .i64 0, .string { data := #[] }, .string { data := #[] }, .string { data := #[] }] 29)).drew W9.heap.size 29 #[.int .i64 0, .string { data := #[] }, .string { data := #[] }, .string { data := #[] }] := Bk.new W9 29 #[.int .i64 0, .string { data := #[] }, .string { data := #[] }, .string { data := #[] }]
                         have hgw : B5 ≤ W9.heap.size := hwl
                         generalize (W9.alloc (.cells #[.int .i64 0, .string { data := #[] }, .string { data := #[] }, .string { data := #[] }] 29)).drew = WE at hPDq hbE ⊢
                         generalize W9.heap.size = gD at hbE hgw ⊢
                         refine wpAnyH_ready (rs := [2]) (by kernel_rfl) (by simp) ?_
                         refine AllReadyH.cons (o := { dst := some 221, op := Op.buildSlice 26 0 #[], type := 26, pos := "law.go:430", after := #[], guard := none }) rfl (fun K hK => ?_) AllReadyH.nil
                         go_simp
                         refine hK.out _ _ ((kK5 _ _ hPDq (bt_new _ _))) (fun hHeld => ?_)
                         clear hK K
                         try simp only [Act.put, s1, s2, s3]
                         clear hHeld
                         have hown := World.ownsRow_made (base := WE.heap.size) (e := 9) (size := 1) WE #[] 0 (Nat.le_refl _) (Nat.zero_le _) rfl
                         have hgE := hbE.lt
                         refine wpAnyH_ready (rs := [4]) (by kernel_rfl) (by simp) ?_
                         refine AllReadyH.cons (o := { dst := some 223, op := Op.call { callee := Callee.builtin Builtin.append, args := #[Operand.tmp 221, Operand.tmp 222], argTypes := #[26, 26] }, type := 26, pos := "law.go:430", after := #[{ on := 2, ground := Ground.data }, { on := 3, ground := Ground.data }], guard := none }) rfl (fun K hK => ?_) AllReadyH.nil
                         refine step_app5 rfl _ _ rfl _ rfl (some ⟨g24, 0, none⟩) (j + 1 + 1) c24 (names.take j ++ [p] ++ [nx]) rfl WE.heap.size hown Hl2.out ((fun X h => (oP5.out X h).2) _ (kK5 _ _ hPDq (bt_new _ _))) (fun e => by cases e) (by omega) (by simp) ?_
                         intro A5 c5 w5 ho5 hg5
                         have hr5 := rd_own5 ho5
                         have hbl5 : Below WE.heap.size WE w5 := (bt_new WE (.cells #[] 9)).grown hg5 (by simp) (fun q e => by have h9 := Option.some.inj (show some WE.heap.size = some q from e); omega)
                         have hP5 := kK5 _ _ hPDq hbl5
                         have hbD5 := hbE.below hbl5 hgE
                         refine hK.out _ _ hP5 (fun hHeld => ?_)
                         clear hK K hHeld
                         try simp only [Act.put, s1, s2, s3]
                         clear hown hbl5 hg5 hbE hgE ho5
                         refine wpAnyH_ready (rs := [5]) (by kernel_rfl) (by simp) ?_
                         refine AllReadyH.cons (o := { dst := some 224, op := Op.call { callee := Callee.value (Operand.func 14), args := #[Operand.tmp 219, Operand.tmp 220, Operand.tmp 223], argTypes := #[33, 3, 26] }, type := 31, pos := "law.go:430", after := #[{ on := 0, ground := Ground.data }, { on := 1, ground := Ground.data }, { on := 4, ground := Ground.data }, { on := 4, ground := Ground.chain }], guard := none }) rfl (fun K hK => ?_) AllReadyH.nil
                         go_simp
                         go_at_call 14
                         refine (H25.out _ _ _ hr5).mono ?_
                         rintro e w6 ⟨rfl, hb⟩
                         go_wp2_with fail
                         refine hK.out _ _ (kK5 _ _ hP5 hb) (fun hHeld => ?_)
                         clear hK K hHeld
                         try simp only [Act.put, s1, s2, s3]
                         have hPD := kK5 _ _ hP5 hb
                         have hbD := hbD5.below hb hbD5.lt
                         clear hb hr5 hP5 hbD5
                         generalize w6 = WD at hPD hbD ⊢
                         have hHeld := hPD
                         refine' tk5 (i := 6) (oi := { dst := some 218, op := Op.move (Operand.tmp 224), type := 31, pos := "law.go:430", after := #[{ on := 5, ground := Ground.data }], guard := none }) rfl ?hy100 (by assumption) ?rest100
                         case hy100 => (intro W hSW; (try dsimp only at hSW); go_simp; with_reducible rfl)
                         try simp only [Act.put, s1, s2, s3]
                         refine' tk5 (i := 7) (oi := { dst := some 225, op := Op.extract (Operand.tmp 218) 0, type := 29, pos := "law.go:430", after := #[{ on := 6, ground := Ground.data }], guard := none }) rfl ?hy101 (by assumption) ?rest101
                         case hy101 => (intro W hSW; (try dsimp only at hSW); go_simp; with_reducible rfl)
                         try simp only [Act.put, s1, s2, s3]
                         refine' tk5 (i := 8) (oi := { dst := some 226, op := Op.extract (Operand.tmp 218) 1, type := 30, pos := "law.go:430", after := #[{ on := 6, ground := Ground.data }, { on := 10, ground := Ground.gcOnly Departure.lateStores }], guard := none }) rfl ?hy102 (by assumption) ?rest102
                         case hy102 => (intro W hSW; (try dsimp only at hSW); go_simp; with_reducible rfl)
                         try simp only [Act.put, s1, s2, s3]
                         obtain ⟨z0, z1, z2, z3, f0, f1, f2, f3⟩ := cells5 hbD
                         have hgl2 := hbD.lt
                         have hPS : P5 ((((WD.setCell ⟨gD, 0, none⟩ (.int .i64 zi)).setCell ⟨gD, 1, none⟩ (.string zp)).setCell ⟨gD, 2, none⟩ (.string zc)).setCell ⟨gD, 3, none⟩ (.string zx)) := kP5 _ _ hPD (below5 (Below.refl _ _) hgw)
                         have hbS := store5 (x0 := .int .i64 zi) (x1 := .string zp) (x2 := .string zc) (x3 := .string zx) hbD
                         refine wpAnyH_ready (rs := [10]) (by kernel_rfl) (by simp) ?_
                         refine AllReadyH.cons (o := { dst := none, op := Op.store 29 (Operand.tmp 25) (Operand.tmp 225), type := 0, pos := "law.go:430", after := #[{ on := 9, ground := Ground.data }, { on := 7, ground := Ground.data }, { on := 5, ground := Ground.chain }, { on := 0, ground := Ground.phase }, { on := 1, ground := Ground.phase }, { on := 2, ground := Ground.phase }, { on := 3, ground := Ground.phase }, { on := 4, ground := Ground.phase }, { on := 5, ground := Ground.phase }, { on := 6, ground := Ground.phase }, { on := 7, ground := Ground.phase }, { on := 8, ground := Ground.textOnly Departure.lateStores }, { on := 9, ground := Ground.phase }], guard := none }) rfl (fun K hK => ?_) AllReadyH.nil
                         go_simp
                         refine hK.out _ _ (hPS) (fun hHeld => ?_)
                         clear hK K
                         try simp only [Act.put, s1, s2, s3]
                         clear hHeld
                         refine wpAnyH_ready (rs := [11]) (by kernel_rfl) (by simp) ?_
                         refine AllReadyH.cons (o := { dst := some 26, op := Op.assign (Operand.tmp 226), type := 30, pos := "law.go:430", after := #[{ on := 8, ground := Ground.data }, { on := 10, ground := Ground.chain }, { on := 0, ground := Ground.phase }, { on := 1, ground := Ground.phase }, { on := 2, ground := Ground.phase }, { on := 3, ground := Ground.phase }, { on := 4, ground := Ground.phase }, { on := 5, ground := Ground.phase }, { on := 6, ground := Ground.phase }, { on := 7, ground := Ground.phase }, { on := 8, ground := Ground.phase }, { on := 9, ground := Ground.phase }, { on := 10, ground := Ground.phase }], guard := none }) rfl (fun K hK => ?_) AllReadyH.nil
                         go_simp
                         refine hK.out _ _ (hPS) (fun hHeld => ?_)
                         clear hK K
                         try simp only [Act.put, s1, s2, s3]
                         clear hHeld
                         refine wpAnyH_done (by kernel_rfl) ?_ _
                         clear z0 z1 z2 z3 f0 f1 f2 f3 hgl2 hPD hbD
                         generalize ((((WD.setCell ⟨gD, 0, none⟩ (.int .i64 zi)).setCell ⟨gD, 1, none⟩ (.string zp)).setCell ⟨gD, 2, none⟩ (.string zc)).setCell ⟨gD, 3, none⟩ (.string zx)) = WS at hPS hbS ⊢
                         go_wp2_with fail
                         go_meet
                         exact ⟨rfl, hPS, gD, rfl, hbS⟩
                      case rest =>
                       obtain ⟨rfl, hPc, g25, rfl, _⟩ := hcut
                       clear hP5 H25
                       revert hPc
                       generalize wc = W10
                       intro hP10
                       have Q10 : Hid (∀ X, P5 X → Below w.heap.size w X ∧ Bk X w.heap.size 25 oc.toArray ∧ Bk X gl 33 oc.toArray ∧ Rd X (some ⟨g9, 0, none⟩) ((names.take (j + 1)).map .string) ∧ X.cell? ⟨g17, 0, none⟩ = some (.int .i64 j) ∧ X.cell? ⟨g17, 2, none⟩ = some (.string cc)) := fun X h => by
                        have h3 := (oP4.out X (oP5.out X h).1).1
                        have hx := oP.out X (oP2.out X (oP3.out X h3).1).1
                        have hc := (HC.out X h3).1
                        exact ⟨hx.1, hx.2.1, hx.2.2.1, by rw [List.map_take]; exact rd_take5 (j + 1) hx.2.2.2.1, hc.2.1, hc.2.2.2.1⟩
                       have H33c : Hid (∀ W : World, Calls Tryz.prog 33 #[.agg oc.toArray, .string cc] W fun x w' => x = .returned (.int .i64 (a : Int)) ∧ Below W.heap.size W w') := fun W => by
                        have := T.h33 cc W
                        rw [Hs.out] at this
                        exact this
                       have Hlt : Hid ((names.take (j + 1)).length = j + 1) := by show _ = _; rw [List.length_take, Hnl.out]; omega
                       as_aux_lemma =>
                        have hsl2 : (j : Int) + 1 ≤ (c9 : Int) := by omega
                        have hsl3 : IntKind.i64.wrap ((j : Int) + 1) = (j : Int) + 1 := IntWalk.i64_in _ (by omega)
                        have hsl4 : (0 : Int) ≤ (j : Int) + 1 := by omega
                        have d0 := (Q10.out _ (kK5 _ _ hP10 (bt_new W10 (.cells #[] 9)))).2.2.2.2.1
                        have hownE : (W10.alloc (.cells #[] 9)).ownsRow W10.heap.size 9 1 (.slice (some ⟨W10.heap.size, 0, none⟩) 0 0) 0 [] := World.ownsRow_made W10 #[] 0 (Nat.le_refl _) (Nat.zero_le _) rfl
                        have hrE := (Q10.out _ (kK5 _ _ hP10 (bt_new W10 (.cells #[] 9)))).2.2.2.1
                        go_upto_region 28 with fail
                        go_upto_region 29 with (at_builtin; refine wpList_app5 rfl _ _ rfl _ rfl (some ⟨g9, 0, none⟩) (j + 1) c9 (names.take (j + 1)) rfl W10.heap.size hownE Hlt.out hrE (fun e => by cases e) (by omega) (by simp) ?_; intro A27 c27 w27 ho27 hg27)
                        have hbl27 : Below W10.heap.size W10 w27 := (bt_new W10 (.cells #[] 9)).grown hg27 (by simp) (fun q e => by have h9 := Option.some.inj (show some W10.heap.size = some q from e); omega)
                        have hP27 := kK5 _ _ hP10 hbl27
                        have hBE : B5 ≤ W10.heap.size := hPB5 _ hP10
                        have hszE := hbl27.size
                        clear hbl27 hg27 hownE hrE d0 hP10 hsl2 hsl3 hsl4
                        generalize W10.heap.size = gE at ho27 hBE hszE
                        have d2 := (Q10.out _ hP27).2.2.2.2.2
                        have hbk27 := (Q10.out _ hP27).2.1
                        go_upto_region 30 with (first
                         | (refine wpList_load_row rfl 25 _ rfl w.heap.size rfl 25 oc.toArray (0, 0) _ hbk27 Tryz.underlying25 rfl T.i25 ?_)
                         | (go_at_call 33; refine (H33c.out _).mono ?_; rintro e w28 ⟨rfl, hb28⟩))
                        have F28 : Hid (P5 w28 ∧ gE ≤ w28.heap.size ∧ w28.ownsRow gE 9 1 (.slice A27 (j + 1) c27) (j + 1) ((names.take (j + 1)).map .string)) := ⟨kK5 _ _ hP27 hb28, Nat.le_trans hszE hb28.size, ownBelow5 ho27 hb28⟩
                        clear hP27 ho27 hszE d2 hbk27 hb28 H33c
                        obtain ⟨ha1, ha9⟩ := ha
                        as_aux_lemma =>
                         go_upto_region 31 with fail
                         go_loopw [244, 27] (fun iv v27 wr => ∃ k : Nat, k ≤ 5 ∧ iv = .int .i64 k ∧ P5 wr ∧ gE ≤ wr.heap.size ∧ wr.ownsRow gE 9 1 v27 (j + 1 + k) ((names.take (j + 1) ++ seqF o a k).map .string)) (fun iv _ _ => 5 - (intOf iv).toNat)
                         case atStart => exact ⟨0, by omega, rfl, F28.out.1, F28.out.2.1, by simpa [seqF_zero] using F28.out.2.2⟩
                         case round =>
                          obtain ⟨k, hk, rfl, hPr, hgr, hown⟩ := hrel
                          clear F28
                          by_cases hk5 : k < 5
                          ·
                           obtain ⟨q, hq9, hqq, hmodq⟩ : ∃ q : Nat, q < 9 ∧ (a + k) % 9 = q ∧ ((a : Int) + (k : Int)).tmod 9 = (q : Int) := ⟨(a + k) % 9, by omega, rfl, by rw [Int.tmod_eq_emod_of_nonneg (by omega)]; omega⟩
                           have hsq := seqF_succ o a k
                           rw [hqq] at hsq
                           have Hcq : Hid (∀ W, Bk W w.heap.size 25 oc.toArray → W.cell? ⟨w.heap.size, q, none⟩ = some (.string (o.b.getD q .empty))) := fun W h => T.b9 W q h hq9
                           generalize o.b.getD q .empty = s1 at hsq Hcq
                           have Hsq := Lib.hid hsq; clear hsq hqq
                           have k0 : (0 : Int) ≤ (k : Int) := by omega
                           have k5 : (k : Int) < 5 := by omega
                           have qq0 : (0 : Int) ≤ (q : Int) := by omega
                           have qq9 : (q : Int) < 9 := by omega
                           have w2 : IntKind.i64.wrap ((a : Int) + (k : Int)) = (a : Int) + (k : Int) := IntWalk.i64_in _ (by omega)
                           have hcs := cell_one_new wr (.string s1) 9
                           have x1 := Hcq.out _ (Q10.out _ hPr).2.1
                           have hwlt := (Q10.out _ hPr).2.1.lt
                           as_aux_lemma =>
                            go_upto_region 34 with (at_builtin; refine wpList_append_lies _ rfl _ _ 26 rfl gE 9 i0 (.string { data := #[] }) 1 16 Tryz.underlying26 hi hz0 hz1 hz2 rfl (by decide) _ _ _ rfl (hown.alloc _) ⟨wr.heap.size, 0, none⟩ 1 1 [.string s1] rfl rfl hcs (strs_oneCell [s1]) (by decide) (by unfold maxLen; omega) (by omega) (by simp; omega) _ rfl ?_; intro g cap w5 hown' hgrow hat hlt5)
                            have hP5' : P5 w5 := kP5 _ _ hPr (((Below.refl B5 wr).alloc (hPB5 _ hPr) _).grown hgrow (by have := hPB5 _ hPr; simp; omega) (fun r e => Nat.le_trans hBE ((hown.lt r e).1)))
                            have hgw5 : gE ≤ w5.heap.size := by have := hgrow.size; simp at this; omega
                            have hown5 : w5.ownsRow gE 9 1 (.slice (some ⟨g, 0, none⟩) (j + 1 + k + 1) cap) (j + 1 + (k + 1)) ((names.take (j + 1) ++ seqF o a (k + 1)).map .string) := by
                             rw [Hsq.out, ← List.append_assoc, List.map_append]; exact hown'
                            clear hown' hgrow hat hcs x1 hown hPr hgr hwlt
                            go_wp2
                            go_roundw
                            case rel => exact ⟨k + 1, by omega, by go_num, hP5', hgw5, hown5⟩
                            case measure => simp [intOf]; omega
                          ·
                           obtain rfl : 5 = k := by omega
                           obtain ⟨A27, c27, rfl, hc27, hm27, hnil27, hform27, hr27⟩ := own_form5 hown
                           obtain ⟨P6, B6, kP6, hPB6, hP6, hBw6, oP6⟩ := pack5 (W := wr) (fun X => P5 X ∧ Rd X A27 ((names.take (j + 1) ++ seqF o a 5).map .string)) ⟨hPr, hr27⟩ (keepB_and (fun X Y h hb => kP5 X Y h (hb.mono (hPB5 _ hPr))) (keepB_rd hr27))
                           have kK6 : Keep P6 := fun X Y h hb => kP6 X Y h (hb.mono (hPB6 X h))
                           have HR6 : Hid (∀ X, P6 X → X.rangeAt gl 0 oc) := fun X h => HR5.out X (oP6.out X h).1
                           have Hl3 : Hid ((names.take (j + 1) ++ seqF o a 5).length = j + 1 + 5) := by show _ = _; rw [List.length_append, Hlt.out, seqF_len]
                           have H35 := Lib.hid (T.hi (names.take (j + 1) ++ seqF o a 5) (j + 1 + 5) [(j : Int)] 0 Hl3.out (by omega) H3.out)
                           clear hPr hr27 hBw6 hown hform27
                           have Hnil27 := Lib.hid hnil27; clear hnil27
                           as_aux_lemma =>
                            go_upto_region 35 with fail
                            go_cut [30, 31] from 32 (fun s30 s31 wr => s31 = .int .i64 0 ∧ P6 wr ∧ ∃ A' c', s30 = .slice A' ([(j : Int)] : List Int).length c' ∧ Rd wr A' (([(j : Int)] : List Int).map (.int .i64)))
                            case first =>
                             as_aux_lemma =>
                              have hP0 : P6 wr.drew := kK6 _ _ hP6 (bt_drew (Below.refl _ wr))
                              have hPE : P6 (wr.alloc (.cells #[] 9)).drew := kK6 _ _ hP6 (bt_drew (bt_new wr (.cells #[] 9)))
                              have hownE : (wr.alloc (.cells #[] 9)).drew.ownsRow wr.heap.size 9 1 (.slice (some ⟨wr.heap.size, 0, none⟩) 0 0) 0 [] := World.ownsRow_made wr #[] 0 (Nat.le_refl _) (Nat.zero_le _) rfl
                              refine wp_region_held_drew (S := P6) (by kernel_rfl) (hP0) (fun hHeld => ?_)
                              refine' wpAnyH_take (i := 0) (oi := { dst := some 259, op := Op.load 33 (Operand.tmp 8), type := 33, pos := "law.go:440", after := #[], guard := none }) (v := _) rfl (by kernel_rfl) (by kernel_rfl) (by kernel_rfl) (fun _ _ _ h => h) (yieldsIf_load_mid (by kernel_rfl) _ _ rfl _ _ rfl (oc) _ (fun W h => HR6.out W h) Tryz.underlying33 rfl (T.l33)) (by assumption) ?rest103
                              try simp only [Act.put, s1, s2, s3]
                              refine' tk5 (i := 1) (oi := { dst := some 260, op := Op.move (Operand.tmp 7), type := 3, pos := "law.go:440", after := #[], guard := none }) rfl ?hy104 (by assumption) ?rest104
                              case hy104 => (intro W hSW; (try dsimp only at hSW); go_simp; with_reducible rfl)
                              try simp only [Act.put, s1, s2, s3]
                              refine' tk5 (i := 3) (oi := { dst := some 262, op := Op.move (Operand.tmp 27), type := 26, pos := "law.go:440", after := #[], guard := none }) rfl ?hy105 (by assumption) ?rest105
                              case hy105 => (intro W hSW; (try dsimp only at hSW); go_simp; with_reducible rfl)
                              try simp only [Act.put, s1, s2, s3]
                              refine wpAnyH_ready (rs := [2]) (by kernel_rfl) (by simp) ?_
                              refine AllReadyH.cons (o := { dst := some 261, op := Op.buildSlice 26 0 #[], type := 26, pos := "law.go:440", after := #[], guard := none }) rfl (fun K hK => ?_) AllReadyH.nil
                              go_simp
                              refine hK.out _ _ (hPE) (fun hHeld => ?_)
                              clear hK K
                              try simp only [Act.put, s1, s2, s3]
                              refine wpAnyH_ready (rs := [4]) (by kernel_rfl) (by simp) ?_
                              refine AllReadyH.cons (o := { dst := some 263, op := Op.call { callee := Callee.builtin Builtin.append, args := #[Operand.tmp 261, Operand.tmp 262], argTypes := #[26, 26] }, type := 26, pos := "law.go:440", after := #[{ on := 2, ground := Ground.data }, { on := 3, ground := Ground.data }], guard := none }) rfl (fun K hK => ?_) AllReadyH.nil
                              refine step_app5 rfl _ _ rfl _ rfl A27 (j + 1 + 5) c27 (names.take (j + 1) ++ seqF o a 5) rfl wr.heap.size hownE Hl3.out ((fun X h => (oP6.out X h).2) _ hPE) Hnil27.out (by omega) (by simp) ?_
                              intro A5 c5 w5 ho5 hg5
                              have hr5 := rd_own5 ho5
                              have hbl5 : Below wr.heap.size wr w5 := (bt_drew (bt_new wr (.cells #[] 9))).grown hg5 (by simp) (fun q e => by have h9 := Option.some.inj (show some wr.heap.size = some q from e); omega)
                              have hP5 := kK6 _ _ hP6 hbl5
                              refine hK.out _ _ hP5 (fun hHeld => ?_)
                              clear hK K hHeld hbl5 hg5 ho5
                              try simp only [Act.put, s1, s2, s3]
                              refine wpAnyH_ready (rs := [5]) (by kernel_rfl) (by simp) ?_
                              refine AllReadyH.cons (o := { dst := some 264, op := Op.call { callee := Callee.value (Operand.func 15), args := #[Operand.tmp 259, Operand.tmp 260, Operand.tmp 263], argTypes := #[33, 3, 26] }, type := 35, pos := "law.go:440", after := #[{ on := 0, ground := Ground.data }, { on := 1, ground := Ground.data }, { on := 4, ground := Ground.data }, { on := 4, ground := Ground.chain }], guard := none }) rfl (fun K hK => ?_) AllReadyH.nil
                              go_simp
                              (go_at_call 15; refine (H35.out _ _ _ hr5).mono ?_; rintro e w6 ⟨⟨v, rfl, hv⟩, hb⟩)
                              go_wp2_with fail
                              refine hK.out _ _ (kK6 _ _ hP5 hb) (fun hHeld => ?_)
                              clear hK K
                              try simp only [Act.put, s1, s2, s3]
                              refine' tk5 (i := 6) (oi := { dst := some 258, op := Op.move (Operand.tmp 264), type := 35, pos := "law.go:440", after := #[{ on := 5, ground := Ground.data }], guard := none }) rfl ?hy106 (by assumption) ?rest106
                              case hy106 => (intro W hSW; (try dsimp only at hSW); go_simp; with_reducible rfl)
                              try simp only [Act.put, s1, s2, s3]
                              refine' tk5 (i := 7) (oi := { dst := some 265, op := Op.extract (Operand.tmp 258) 0, type := 34, pos := "law.go:440", after := #[{ on := 6, ground := Ground.data }], guard := none }) rfl ?hy107 (by assumption) ?rest107
                              case hy107 => (intro W hSW; (try dsimp only at hSW); go_simp; with_reducible rfl)
                              try simp only [Act.put, s1, s2, s3]
                              refine' tk5 (i := 8) (oi := { dst := some 266, op := Op.extract (Operand.tmp 258) 1, type := 30, pos := "law.go:440", after := #[{ on := 6, ground := Ground.data }, { on := 9, ground := Ground.gcOnly Departure.lateStores }], guard := none }) rfl ?hy108 (by assumption) ?rest108
                              case hy108 => (intro W hSW; (try dsimp only at hSW); go_simp; with_reducible rfl)
                              try simp only [Act.put, s1, s2, s3]
                              refine wpAnyH_ready (rs := [9]) (by kernel_rfl) (by simp) ?_
                              refine AllReadyH.cons (o := { dst := some 30, op := Op.assign (Operand.tmp 265), type := 34, pos := "law.go:440", after := #[{ on := 7, ground := Ground.data }, { on := 5, ground := Ground.chain }, { on := 0, ground := Ground.phase }, { on := 1, ground := Ground.phase }, { on := 2, ground := Ground.phase }, { on := 3, ground := Ground.phase }, { on := 4, ground := Ground.phase }, { on := 5, ground := Ground.phase }, { on := 6, ground := Ground.phase }, { on := 7, ground := Ground.phase }, { on := 8, ground := Ground.textOnly Departure.lateStores }], guard := none }) rfl (fun K hK => ?_) AllReadyH.nil
                              go_simp
                              refine hK.out _ _ (hHeld) (fun hHeld => ?_)
                              clear hK K
                              try simp only [Act.put, s1, s2, s3]
                              refine wpAnyH_ready (rs := [10]) (by kernel_rfl) (by simp) ?_
                              refine AllReadyH.cons (o := { dst := some 31, op := Op.assign (Operand.tmp 266), type := 30, pos := "law.go:440", after := #[{ on := 8, ground := Ground.data }, { on := 9, ground := Ground.chain }, { on := 0, ground := Ground.phase }, { on := 1, ground := Ground.phase }, { on := 2, ground := Ground.phase }, { on := 3, ground := Ground.phase }, { on := 4, ground := Ground.phase }, { on := 5, ground := Ground.phase }, { on := 6, ground := Ground.phase }, { on := 7, ground := Ground.phase }, { on := 8, ground := Ground.phase }, { on := 9, ground := Ground.phase }], guard := none }) rfl (fun K hK => ?_) AllReadyH.nil
                              go_simp
                              refine hK.out _ _ (hHeld) (fun hHeld => ?_)
                              clear hK K
                              try simp only [Act.put, s1, s2, s3]
                              refine wpAnyH_done (by kernel_rfl) ?_ _
                              go_wp2_with fail
                              go_meet
                              obtain ⟨_, A6, c6, rfl, hr6⟩ := hv
                              exact ⟨rfl, hHeld, A6, c6, rfl, hr6⟩
                            case rest =>
                             obtain ⟨rfl, hPc, A30, c30, rfl, hr30⟩ := hcut
                             clear hP6 H35
                             have hPn := kK6 _ _ hPc (bt_new wc (.cells #[.int .i64 j] 3))
                             have d0 := (Q10.out _ (oP6.out _ hPc).1).2.2.2.2.1
                             have hrn : Rd (wc.alloc (.cells #[.int .i64 j] 3)) (some ⟨wc.heap.size, 0, none⟩) [.int .i64 j] := Rd.of_block (Bk.new wc 3 #[.int .i64 j])
                             have hro := hr30.below (bt_new wc (.cells #[.int .i64 j] 3))
                             as_aux_lemma =>
                              go_wp2_with (go_at_call 19; refine (sameInts_any [(j : Int)] [(j : Int)] A30 (some ⟨wc.heap.size, 0, none⟩) 1 1 c30 1 _ rfl rfl (by decide) hro hrn).mono ?_; rintro e wy ⟨rfl, q, rfl⟩)
                              go_ret
                              exact ⟨ret_bool (by first | rfl | simp), bt_drewN (Q10.out _ (oP6.out _ hPn).1).1 q⟩

set_option maxHeartbeats 8000000 in
set_option maxRecDepth 100000 in
theorem turns_walk (o : LU) (ho : o.ok) (hsz : ∀ s ∈ o.b, s.size ≤ 9223372036854775807) (A : Array Value) (hA : A = o.cells.toArray) (sl : Nat) (hsl : sl ≤ 255) (cm : List Int) (hcm : ∀ c ∈ cm, 0 ≤ c ∧ c ≤ 255) (C : Option Addr) (n c : Nat) (hn : cm.length = n) (hle : n ≤ 9223372036854775807) (w : World) (hc : Rd w C (cm.map (.int .u8))) (haw : ∀ W, Below w.heap.size w W → Calls Tryz.prog 13 #[] W fun x w' => x = .returned (.bool true) ∧ Below W.heap.size W w') :
 Calls Tryz.prog 5 #[.agg A, .int .u8 sl, .slice C n c] w fun x w' => x = .returned (.bool true) ∧ Below w.heap.size w w' := by
 have Haw := Lib.hid haw
 have F0 : Hid (Below w.heap.size w (w.alloc (.cells A 25)) ∧ Bk (w.alloc (.cells A 25)) w.heap.size 25 o.cells.toArray) := ⟨bt_new w _, by rw [← hA]; exact Bk.new _ _ _⟩
 have Ho := Lib.hid ho; have Hn := Lib.hid hn; have Hc := Lib.hid hc; have Hcm := Lib.hid hcm
 have H16 : Hid (∀ W : World, Calls Tryz.prog 16 #[.agg o.cells.toArray] W fun x w' => x = .returned (.int .i64 (checkLineup o)) ∧ Below W.heap.size W w') := fun W => refLineup_any o ho _ rfl hsz W
 have Hi25 : Hid ((Tryz.prog.info? 25).map (·.size) = some o.cells.toArray.size) := by show _ = _; rw [LU.size18 o ho, info25T]
 obtain ⟨i, hi9, hmod⟩ : ∃ i : Nat, i < 9 ∧ (sl : Int).tmod 9 = (i : Int) := ⟨sl % 9, by omega, by rw [Int.tmod_eq_emod_of_nonneg (by omega)]; omega⟩
 have hslI : (0 : Int) ≤ (sl : Int) ∧ (sl : Int) ≤ 255 := by omega
 obtain ⟨hs0, hs1⟩ := hslI
 have Hone : Hid (o.cells.toArray.all (·.oneCell') = true) := LU.oneCell5 o
 have Hi33 : Hid ((Tryz.prog.info? 33).map (·.size) = some o.cells.toArray.size) := by show _ = _; rw [LU.size18 o ho, info33T]
 have Hi25' : Hid ((Tryz.prog.info? 25).map (·.size) = some o.cells.length) := by show _ = _; rw [info25T, ← LU.size18 o ho, List.size_toArray]
 have Hi33' : Hid ((Tryz.prog.info? 33).map (·.size) = some o.cells.length) := by show _ = _; rw [info33T, ← LU.size18 o ho, List.size_toArray]
 have HS18 : Hid (o.cells.toArray.size = 18) := LU.size18 o ho
 have Hb9 : Hid (∀ (W : World) (k : Nat), Bk W w.heap.size 25 o.cells.toArray → k < 9 → W.cell? ⟨w.heap.size, k, none⟩ = some (.string (o.b.getD k .empty))) := fun W k h hk => LU.cell_b ho h k hk
 have HT : Hid (∀ l : List Str, (∀ s ∈ l, s ∈ o.b) → l.length ≤ 20 → checkLineup o = 0 → Turned o i l) := fun l h1 h2 h3 => turned_of o ho h3 i hi9 l h2 h1
 have HTP : Hid (∀ m, m ≤ 256 → checkLineup o = 0 → deviateR o ((i : Int) + 1) (seqF o i m) = (Dev.zero, 7) ∧ improperR o ((i : Int) + 1) (seqF o i m) = ([], 0)) := fun m h h3 => turns_proper o ho h3 i m hi9 h
 have H14 : Hid (∀ (slot : Int) (came : List Str) (W : World) (A' : Option Addr) (m c' : Nat), came.length = m → m ≤ 1000000 → Rd W A' (came.map Value.string) → Calls Tryz.prog 14 #[.agg o.cells.toArray, .int .i64 slot, .slice A' m c'] W fun x w' => x = .returned (.tuple #[.agg (deviateR o slot came).1.val, .int .i64 (deviateR o slot came).2]) ∧ Below W.heap.size W w') := fun slot came W A' m c' hm hle h => deviate_any o ho _ rfl slot came A' m c' hm hle W h
 have H15 : Hid (∀ (slot : Int) (came : List Str) (W : World) (A' : Option Addr) (m c' : Nat), came.length = m → m ≤ 1000000 → Rd W A' (came.map Value.string) → Calls Tryz.prog 15 #[.agg o.cells.toArray, .int .i64 slot, .slice A' m c'] W fun x w' => (∃ v, x = .returned (.tuple #[v, .int .i64 (improperR o slot came).2]) ∧ SlK 1 w' v (improperR o slot came).1.length ((improperR o slot came).1.map (.int .i64))) ∧ Below W.heap.size W w') := fun slot came W A' m c' hm hle h => improper_any o ho _ rfl slot came A' m c' hm hle W h
 have H33 : Hid (∀ (s : Str) (W : World), Calls Tryz.prog 33 #[.agg o.cells.toArray, .string s] W fun x w' => x = .returned (.int .i64 (idxF (fun y => decide (y = s)) o.b + 1)) ∧ Below W.heap.size W w') := fun s W => refSlot_any o ho _ rfl s W
 clear hA ho hn hc haw hcm
 by_cases hw1 : 20 < n
 ·
  have a1 : (20 : Int) < (n : Int) := by omega
  clear hw1
  as_aux_lemma =>
   go_enter Tryz.func5, Tryz.ntmps5
   go_upto_region 1 with fail
   generalize (w.alloc (.cells A 25)) = W0 at F0 ⊢
   go_wp2_with fail
   refine (Haw.out _ F0.out.1).mono ?_
   rintro e w1 ⟨rfl, hb1⟩
   go_wp2_with fail
   refine (Haw.out _ (bt_trans F0.out.1 hb1)).mono ?_
   rintro e w2 ⟨rfl, hb2⟩
   go_wp2
   go_ret
   exact ⟨rfl, bt_trans (bt_trans F0.out.1 hb1) hb2⟩
 have a1 : ¬ (20 : Int) < (n : Int) := by omega
 by_cases hck : checkLineup o = 0
 ·
  exact turns_main o _ w i (t5_of o Ho.out hsz hck w Haw.out i hi9) A sl hi9 hmod hs0 hs1 cm Hcm.out C n c Hn.out a1 Hc.out F0.out
 ·
  have hz : (checkLineup o != 0) = true := by simpa using hck
  have HRg : Hid (∀ X, Bk X w.heap.size 25 o.cells.toArray → ∀ j (hj : j < o.cells.length), X.cell? ⟨w.heap.size, 0 + j, none⟩ = some o.cells[j]) := fun X h j hj => by
   rw [Nat.zero_add, h.cell, List.getElem?_toArray, List.getElem?_eq_getElem hj]
  clear hsz Hone Hi33 Hi33' Hi25 HS18 Hb9 HT HTP H14 H15 H33 Ho Hn Hc Hcm
  generalize o.cells = oc at F0 H16 Hi25' HRg
  have b1 : decide ((20 : Int) < (n : Int)) = false := decide_eq_false a1
  clear hck
  generalize checkLineup o = E at H16 hz
  as_aux_lemma =>
   go_enter Tryz.func5, Tryz.ntmps5
   go_upto_region 1 with fail
   generalize (w.alloc (.cells A 25)) = W0 at F0 ⊢
   go_wp2_with fail
   refine (Haw.out _ F0.out.1).mono ?_
   rintro e w1 ⟨rfl, hb1⟩
   have F1 : Hid (Below w.heap.size w w1 ∧ Bk w1 w.heap.size 25 oc.toArray) := ⟨bt_trans F0.out.1 hb1, F0.out.2.below hb1 F0.out.2.lt⟩
   go_wp2_with (first
    | (refine wpList_load_cells_g 25 _ rfl w.heap.size 0 rfl oc (fun j hj => by rw [List.getElem?_eq_getElem hj]; exact HRg.out _ F1.out.2 j hj) _ Tryz.underlying25 rfl Hi25'.out rfl ?_)
    | (go_at_call 16; refine (H16.out _).mono ?_; rintro e w2 ⟨rfl, hb2⟩))
   refine (Haw.out _ (bt_trans F1.out.1 hb2)).mono ?_
   rintro e w3 ⟨rfl, hb3⟩
   go_wp2
   go_ret
   exact ⟨rfl, bt_trans (bt_trans F1.out.1 hb2) hb3⟩
end Go.Proofs.YtmagppkclnebjaaGreatDoor
