/- The reference: Who. -/
import Derived.Test.YtmagppkclnebjaaGreatDoorH1
import Derived.Test.YtmagppkclnebjaaGreatDoorB3
set_option linter.unusedVariables false
set_option linter.unusedSimpArgs false
set_option linter.unusedSimpArgs false
set_option linter.unusedVariables false
namespace Go.Proofs.YtmagppkclnebjaaGreatDoor
open Go.RowKit
open L

theorem run_index46n (w : World) (t : Tms) (ht : t.ok) (k : Nat) (hk : k < 2) : (Instr.index 46 (.agg t.cells.toArray) (.int .i64 k)).run Tryz.prog w = .ok (.agg (t.get k).cells.toArray) w := by
 have h1 := agg25
 have h2 := size25
 have hk' : k = 0 ∨ k = 1 := by omega
 have e0 := Tms.drop0 t ht
 have e1 := Tms.drop18 t ht
 rcases hk' with rfl | rfl
 ·
  simp [Instr.index, asIntOf, run_underlying Tryz.underlying46, part, h1, h2, Tms.get] at e0 ⊢
  rw [e0]
 ·
  simp [Instr.index, asIntOf, run_underlying Tryz.underlying46, part, h1, h2, Tms.get] at e1 ⊢
  rw [e1]
theorem atAll_ok : ∀ (l : List Chg) (t : Tms) (n : Int), t.ok → (atAll t l n).ok
 | [], _, _, h => h
 | c :: r, t, n, h => by
  rw [atAll_cons]
  split
  ·
   exact atAll_ok r _ n (Tms.made_ok' t h c)
  ·
   exact atAll_ok r t n h
theorem run_index46 (W : World) (t : Tms) (ht : t.ok) (side : Int) (hs : side = 0 ∨ side = 1) : (Instr.index 46 (.agg t.cells.toArray) (.int .i64 side)).run Tryz.prog W = .ok (.agg (t.get side).cells.toArray) W := by
 rcases hs with rfl | rfl
 ·
  exact run_index46n W t ht 0 (by omega)
 ·
  exact run_index46n W t ht 1 (by omega)
theorem refWho_none (X : LU) (pos : Int) (h : ∀ j, j < 9 → X.p.getD j 0 ≠ pos) (hX : X.ok) : refWho X pos = .empty := by
 unfold refWho
 have : X.p.findIdx? (fun y => decide (y = pos)) = none := by
  rw [List.findIdx?_eq_none_iff]
  intro x hx
  obtain ⟨j, hj, rfl⟩ := List.getElem_of_mem hx
  have := h j (by rw [hX.2] at hj; exact hj)
  simp [List.getD, List.getElem?_eq_getElem hj] at this
  simpa using this
 rw [this]
theorem refWho_hit (X : LU) (pos : Int) (k : Nat) (hk : k < 9) (hX : X.ok) (h : ∀ j, j < k → X.p.getD j 0 ≠ pos) (e : X.p.getD k 0 = pos) : refWho X pos = X.b.getD k .empty := by
 have hl : k < X.p.length := by rw [hX.2]; exact hk
 have hh := idxF_hit (fun y => decide (y = pos)) X.p 0 k hl (fun j hj => by simpa using h j hj) (by simpa using e)
 unfold refWho
 unfold idxF at hh
 cases hf : X.p.findIdx? (fun y => decide (y = pos)) with
 | none => rw [hf] at hh; simp at hh
 | some i =>
  rw [hf] at hh
  have h5 : (i : Int) = (k : Int) := by simpa using hh
  have : i = k := by omega
  rw [this]

set_option maxHeartbeats 2000000 in
set_option maxRecDepth 100000 in
theorem refWho_any (t : Tms) (ht : t.ok) (T : Array Value) (hT : T = t.cells.toArray) (l : List Chg) (A : Option Addr) (n c : Nat) (hn : l.length = n) (hle : n ≤ 1000) (hok : ∀ d ∈ l, d.okS) (p side pos : Int) (hs : side = 0 ∨ side = 1) (w : World) (hl : RdC w A l) :
 Calls Tryz.prog 41 #[.agg T, .slice A n c, .int .i64 p, .int .i64 side, .int .i64 pos] w fun x w' => x = .returned (.string (refWho ((atAll t l p).get side) pos)) ∧ Below w.heap.size w w' := by
 have F : Hid (Below w.heap.size w (w.alloc (.cells T 46)) ∧ Bk (w.alloc (.cells T 46)) w.heap.size 46 t.cells.toArray) := ⟨bt_new w _, by rw [← hT]; exact Bk.new w 46 T⟩
 have H40 : Hid (∀ W, Below w.heap.size w W → Calls Tryz.prog 40 #[.agg t.cells.toArray, .slice A n c, .int .i64 p] W fun x w' => x = .returned (.agg (atAll t l p).cells.toArray) ∧ Below W.heap.size W w') := fun W hb => refAt_any t ht _ rfl l A n c hn hle hok p W (hl.below hb)
 have Hi := Lib.hid (info46s t.cells.toArray.size (Tms.size36 t ht))
 have hok2 := atAll_ok l t p ht
 obtain ⟨T2, hT2⟩ : ∃ T2, T2 = atAll t l p := ⟨_, rfl⟩
 rw [← hT2] at H40 hok2 ⊢
 have hix := fun W => run_index46 W T2 hok2 side hs
 have Hok := Lib.hid (Tms.get_ok T2 hok2 side)
 clear hT2 hok2 hT ht hn hl hok hs
 generalize T2.get side = X at hix Hok ⊢
 have Hi25 : Hid ((Tryz.prog.info? 25).map (·.size) = some X.cells.toArray.size) := by show _ = _; rw [List.size_toArray]; exact size25D X Hok.out
 have Hone : Hid (X.cells.toArray.all (·.oneCell') = true) := LU.oneCell X
 have HS18 : Hid (X.cells.toArray.size = 18) := LU.size18 X Hok.out
 have HB : Hid (∀ W g k, Bk W g 25 X.cells.toArray → k < 9 → W.cell? ⟨g, k, none⟩ = some (.string (X.b.getD k .empty)) ∧ W.cell? ⟨g, 9 + k, none⟩ = some (.int .i64 (X.p.getD k 0))) := fun W g k h hk => ⟨LU.cell_b Hok.out h k hk, LU.cell_p' Hok.out h k hk⟩
 generalize T2.cells = tc2 at hix H40
 generalize X.cells = xc at hix Hi25 Hone HS18 HB
 go_enter Tryz.func41, Tryz.ntmps41
 go_upto_region 1 with fail
 generalize (w.alloc (.cells T 46)) = W0 at F ⊢
 go_upto_region 2 with (first
  | (refine wpList_load_row rfl 46 _ rfl w.heap.size rfl 46 t.cells.toArray (0, 0) _ F.out.2 Tryz.underlying46 rfl Hi.out ?_)
  | (go_at_call 40; refine (H40.out _ F.out.1).mono ?_; rintro e w2 ⟨rfl, hb2⟩)
  | (refine wpList_store_mid rfl 25 (.tmp 11) (.tmp 18) rfl w2.heap.size 0 xc.toArray rfl rfl ((Bk.new w2 25 #[.string { data := #[] }, .string { data := #[] }, .string { data := #[] }, .string { data := #[] }, .string { data := #[] }, .string { data := #[] }, .string { data := #[] }, .string { data := #[] }, .string { data := #[] }, .int .i64 0, .int .i64 0, .int .i64 0, .int .i64 0, .int .i64 0, .int .i64 0, .int .i64 0, .int .i64 0, .int .i64 0]).there xc.toArray.size (by rw [HS18.out]; decide)) Hi25.out Hone.out ?_))
 have hge : w.heap.size ≤ w2.heap.size := Nat.le_trans F.out.1.size hb2.size
 have F2 : Hid (Below w.heap.size w ((w2.alloc (.cells #[.string { data := #[] }, .string { data := #[] }, .string { data := #[] }, .string { data := #[] }, .string { data := #[] }, .string { data := #[] }, .string { data := #[] }, .string { data := #[] }, .string { data := #[] }, .int .i64 0, .int .i64 0, .int .i64 0, .int .i64 0, .int .i64 0, .int .i64 0, .int .i64 0, .int .i64 0, .int .i64 0] 25)).setCells w2.heap.size 0 xc) ∧ Bk ((w2.alloc (.cells #[.string { data := #[] }, .string { data := #[] }, .string { data := #[] }, .string { data := #[] }, .string { data := #[] }, .string { data := #[] }, .string { data := #[] }, .string { data := #[] }, .string { data := #[] }, .int .i64 0, .int .i64 0, .int .i64 0, .int .i64 0, .int .i64 0, .int .i64 0, .int .i64 0, .int .i64 0, .int .i64 0] 25)).setCells w2.heap.size 0 xc) w2.heap.size 25 xc.toArray) := by
  refine ⟨below_sets hge (bt_alloc (bt_trans F.out.1 hb2) _) _ _, ?_⟩
  have := (Bk.new w2 25 #[.string { data := #[] }, .string { data := #[] }, .string { data := #[] }, .string { data := #[] }, .string { data := #[] }, .string { data := #[] }, .string { data := #[] }, .string { data := #[] }, .string { data := #[] }, .int .i64 0, .int .i64 0, .int .i64 0, .int .i64 0, .int .i64 0, .int .i64 0, .int .i64 0, .int .i64 0, .int .i64 0]).fill xc.toArray (by rw [HS18.out]; rfl)
  simpa using this
 clear F hb2 hge
 generalize ((w2.alloc (.cells #[.string { data := #[] }, .string { data := #[] }, .string { data := #[] }, .string { data := #[] }, .string { data := #[] }, .string { data := #[] }, .string { data := #[] }, .string { data := #[] }, .string { data := #[] }, .int .i64 0, .int .i64 0, .int .i64 0, .int .i64 0, .int .i64 0, .int .i64 0, .int .i64 0, .int .i64 0, .int .i64 0] 25)).setCells w2.heap.size 0 xc) = W1 at F2 ⊢
 generalize w2.heap.size = g at F2 ⊢
 go_upto_region 3 with fail
 go_loop [12] (fun i => ∃ k : Nat, k ≤ 9 ∧ i = .int .i64 k ∧ ∀ j, j < k → X.p.getD j 0 ≠ pos) (fun i => 9 - (intOf i).toNat)
 case atStart => exact ⟨0, Nat.zero_le _, rfl, fun j hj => by omega⟩
 case round =>
  obtain ⟨k, hk, rfl, hj⟩ := hrel
  have Hj := Lib.hid hj; clear hj
  by_cases hk9 : k < 9
  ·
   obtain ⟨c1, c2⟩ := HB.out W1 g k F2.out.2 hk9
   have q0 : (0 : Int) ≤ (k : Int) := by omega
   have q1 : (k : Int) < 9 := by omega
   generalize hp : X.p.getD k 0 = pk at c2
   generalize hb : X.b.getD k .empty = bk at c1
   have Hp := Lib.hid hp; have Hb := Lib.hid hb; clear hp hb
   by_cases he : pk = pos
   ·
    have ht : (pk == pos) = true := by simpa using he
    have Hr : Hid (refWho X pos = bk) := by
     show _ = _
     rw [← Hb.out]; exact refWho_hit X pos k hk9 Hok.out Hj.out (by rw [Hp.out, he])
    clear he
    go_wp2
    go_ret
    exact ⟨by rw [Hr.out]; rfl, F2.out.1⟩
   ·
    have ht : (pk == pos) = false := by simpa using he
    have He := Lib.hid he; clear he
    go_wp2
    go_round
    case rel =>
     refine ⟨k + 1, by omega, by go_num, fun j hj => ?_⟩
     rcases Nat.lt_succ_iff_lt_or_eq.1 hj with h1 | rfl
     ·
      exact Hj.out j h1
     ·
      rw [Hp.out]; exact He.out
    case measure => simp [intOf]; omega
  ·
   obtain rfl : k = 9 := by omega
   have Hr := Lib.hid (refWho_none X pos Hj.out Hok.out)
   go_wp2
   go_ret
   exact ⟨by rw [Hr.out]; rfl, F2.out.1⟩
end Go.Proofs.YtmagppkclnebjaaGreatDoor
