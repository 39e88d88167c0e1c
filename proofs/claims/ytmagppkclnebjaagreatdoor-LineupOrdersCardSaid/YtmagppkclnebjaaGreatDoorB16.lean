/- dugoutlaw03.LineupOrders: it returns true at every lineup, slot and list of names. -/
import Derived.Test.YtmagppkclnebjaaGreatDoorB15
import Derived.Deep.Cut
set_option linter.unusedVariables false
set_option linter.unusedSimpArgs false
set_option linter.unusedSimpArgs false
set_option linter.unusedVariables false
namespace Go.Proofs.YtmagppkclnebjaaGreatDoor
open Go.RowKit
open L

theorem store4 {W : World} {g : Nat} {x0 x1 x2 x3 : Value} (h : Bk W g 29 #[.int .i64 0, .string { data := #[] }, .string { data := #[] }, .string { data := #[] }]) : Bk ((((W.setCell ⟨g, 0, none⟩ x0).setCell ⟨g, 1, none⟩ x1).setCell ⟨g, 2, none⟩ x2).setCell ⟨g, 3, none⟩ x3) g 29 #[x0, x1, x2, x3] :=
  (((h.set_ 0 x0).set_ 1 x1).set_ 2 x2).set_ 3 x3
theorem below4 {w W : World} {g : Nat} {x0 x1 x2 x3 : Value} (h : Below w.heap.size w W) (hg : w.heap.size ≤ g) : Below w.heap.size w ((((W.setCell ⟨g, 0, none⟩ x0).setCell ⟨g, 1, none⟩ x1).setCell ⟨g, 2, none⟩ x2).setCell ⟨g, 3, none⟩ x3) :=
  (((h.setCell (p := ⟨g, 0, none⟩) hg _).setCell (p := ⟨g, 1, none⟩) hg _).setCell (p := ⟨g, 2, none⟩) hg _).setCell (p := ⟨g, 3, none⟩) hg _
theorem sP_of {w X : World} {g : Nat} {x0 x1 x2 x3 : Value} {cs : Array Value} {C : Option Addr} {xs : List Value} (h : Below w.heap.size w X ∧ Bk X w.heap.size 25 cs ∧ Rd X C xs) (hc : Rd w C xs) (hg : w.heap.size < g) :
    Below w.heap.size w ((((X.setCell ⟨g, 0, none⟩ x0).setCell ⟨g, 1, none⟩ x1).setCell ⟨g, 2, none⟩ x2).setCell ⟨g, 3, none⟩ x3) ∧ Bk ((((X.setCell ⟨g, 0, none⟩ x0).setCell ⟨g, 1, none⟩ x1).setCell ⟨g, 2, none⟩ x2).setCell ⟨g, 3, none⟩ x3) w.heap.size 25 cs ∧ Rd ((((X.setCell ⟨g, 0, none⟩ x0).setCell ⟨g, 1, none⟩ x1).setCell ⟨g, 2, none⟩ x2).setCell ⟨g, 3, none⟩ x3) C xs := by
  have hne : w.heap.size ≠ g := by omega
  have hb := below4 (x0 := x0) (x1 := x1) (x2 := x2) (x3 := x3) h.1 (Nat.le_of_lt hg)
  exact ⟨hb, (((h.2.1.far (p := ⟨g, 0, none⟩) hne _).far (p := ⟨g, 1, none⟩) hne _).far (p := ⟨g, 2, none⟩) hne _).far (p := ⟨g, 3, none⟩) hne _, hc.below hb⟩
theorem dev_run (W : World) (di : Int) (dp dc dx : Str) (ei : Int) (ep ec ex : Str) : (binOp .eql 29 (.agg #[.int .i64 di, .string dp, .string dc, .string dx]) (.agg #[.int .i64 ei, .string ep, .string ec, .string ex])).run Tryz.prog W = .ok (.bool (decide ((⟨di, dp, dc, dx⟩ : Dev) = ⟨ei, ep, ec, ex⟩))) W := op_eql29 W ⟨di, dp, dc, dx⟩ ⟨ei, ep, ec, ex⟩
theorem dev_run' (W : World) (di : Int) (dp dc dx : Str) (ei : Int) (ep ec ex : Str) : (binOp .neq 29 (.agg #[.int .i64 di, .string dp, .string dc, .string dx]) (.agg #[.int .i64 ei, .string ep, .string ec, .string ex])).run Tryz.prog W = .ok (.bool (!decide ((⟨di, dp, dc, dx⟩ : Dev) = ⟨ei, ep, ec, ex⟩))) W := op_neq29 W ⟨di, dp, dc, dx⟩ ⟨ei, ep, ec, ex⟩
theorem dev_run39 (W : World) (di : Int) (dp dc dx : Str) (ei : Int) (ep ec ex : Str) : (binOp .neq 39 (.agg #[.int .i64 di, .string dp, .string dc, .string dx]) (.agg #[.int .i64 ei, .string ep, .string ec, .string ex])).run Tryz.prog W = .ok (.bool (!decide ((⟨di, dp, dc, dx⟩ : Dev) = ⟨ei, ep, ec, ex⟩))) W := op_neq39 W ⟨di, dp, dc, dx⟩ ⟨ei, ep, ec, ex⟩
theorem impL_len (X : LU) : ∀ (l : List Str) (k : Nat) (p : Str), (impL X k p l).length ≤ l.length
  | [], _, _ => Nat.le_refl _
  | s :: r, k, p => by
    have := impL_len X r (k + 1) (X.b.getD (behindOf X s) .empty)
    rw [impL, List.length_append, List.length_cons]
    generalize (impL X (k + 1) (X.b.getD (behindOf X s) .empty) r).length = q at this ⊢
    split
    · rw [List.length_singleton]; omega
    · rw [List.length_nil]; omega
/-- what the program's two answers are, at each way -/
inductive Way (o : LU) (slot : Int) (came : List Str) (d : Dev) (e1 : Int) (I : List Int) (e2 : Int) : Prop where
  | lineup (h : checkLineup o ≠ 0) (hd : d = Dev.zero) (h1 : e1 = checkLineup o) (hI : I = []) (h2 : e2 = checkLineup o)
  | came (h : checkLineup o = 0) (hr : refCameL o slot came ≠ 0) (hd : d = Dev.zero) (h1 : e1 = refCameL o slot came) (hI : I = []) (h2 : e2 = refCameL o slot came)
  | none (h : checkLineup o = 0) (hr : refCameL o slot came = 0) (s0 : Nat) (hs : s0 < 9) (hsl : slot = (s0 : Int) + 1) (hn : devL o 0 s0 came = Option.none) (hd : d = Dev.zero) (h1 : e1 = 7) (hI : I = impL o 0 (o.b.getD s0 .empty) came) (h2 : e2 = 0)
  | some (h : checkLineup o = 0) (hr : refCameL o slot came = 0) (s0 : Nat) (hs : s0 < 9) (hsl : slot = (s0 : Int) + 1) (hn : devL o 0 s0 came = Option.some d) (h1 : e1 = 0) (hI : I = impL o 0 (o.b.getD s0 .empty) came) (h2 : e2 = 0)
theorem way_of (o : LU) (slot : Int) (came : List Str) : Way o slot came (deviateR o slot came).1 (deviateR o slot came).2 (improperR o slot came).1 (improperR o slot came).2 := by
  have hcc := checkCame_ref o slot came
  by_cases h0 : checkLineup o = 0
  · rw [if_neg (by rw [h0]; simp)] at hcc
    by_cases hr : refCameL o slot came = 0
    · have hz : checkCame o slot came = 0 := by rw [hcc, hr]
      obtain ⟨_, ⟨hs1, hs9⟩, _, _⟩ := checkCame_zero hz
      have hsl : slot = (((slot - 1).toNat : Nat) : Int) + 1 := by omega
      have e2 : improperR o slot came = (impL o 0 (o.b.getD (slot - 1).toNat .empty) came, 0) := by unfold improperR; rw [if_neg (by rw [hz]; simp)]
      rw [e2]
      cases hd : devL o 0 (slot - 1).toNat came with
      | none =>
        have e1 : deviateR o slot came = (Dev.zero, 7) := by unfold deviateR; rw [if_neg (by rw [hz]; simp), hd]
        rw [e1]
        exact .none h0 hr _ (by omega) hsl hd rfl rfl rfl rfl
      | some d =>
        have e1 : deviateR o slot came = (d, 0) := by unfold deviateR; rw [if_neg (by rw [hz]; simp), hd]
        rw [e1]
        exact .some h0 hr _ (by omega) hsl hd rfl rfl rfl
    · have hz : checkCame o slot came ≠ 0 := by rw [hcc]; exact hr
      have e1 : deviateR o slot came = (Dev.zero, refCameL o slot came) := by unfold deviateR; rw [if_pos hz, hcc]
      have e2 : improperR o slot came = ([], refCameL o slot came) := by unfold improperR; rw [if_pos hz, hcc]
      rw [e1, e2]
      exact .came h0 hr rfl rfl rfl rfl
  · rw [if_pos h0] at hcc
    have hz : checkCame o slot came ≠ 0 := by rw [hcc]; exact h0
    have e1 : deviateR o slot came = (Dev.zero, checkLineup o) := by unfold deviateR; rw [if_pos hz, hcc]
    have e2 : improperR o slot came = ([], checkLineup o) := by unfold improperR; rw [if_pos hz, hcc]
    rw [e1, e2]
    exact .lineup h0 rfl rfl rfl rfl

set_option maxHeartbeats 8000000 in
set_option maxRecDepth 100000 in
theorem orders_any (o : LU) (ho : o.ok) (A : Array Value) (hA : A = o.cells.toArray) (slot : Int) (came : List Str) (C : Option Addr) (n c : Nat) (hn : came.length = n) (hle : n ≤ 9223372036854775807) (w : World) (hc : Rd w C (came.map Value.string)) (hnil : C = none → n = 0 ∧ c = 0) (hE : Env w) :
    Calls Tryz.prog 3 #[.agg A, .int .i64 slot, .slice C n c] w fun x w' => x = .returned (.bool true) ∧ Below w.heap.size w w' := by
  have Haw : Hid (∀ W, Below w.heap.size w W → Calls Tryz.prog 13 #[] W fun x w' => x = .returned (.bool true) ∧ Below W.heap.size W w') := fun W h => awake_any W (env_below hE h)
  have F0 : Hid (Below w.heap.size w (w.alloc (.cells A 25)) ∧ Bk (w.alloc (.cells A 25)) w.heap.size 25 o.cells.toArray) := ⟨bt_new w _, by rw [← hA]; exact Bk.new _ _ _⟩
  have Ho := Lib.hid ho; have Hn := Lib.hid hn; have Hc := Lib.hid hc; have Hnil := Lib.hid hnil; have HE := Lib.hid hE
  clear ho hA hn hc hnil hE
  by_cases hw1 : 20 < n ∧ n ≤ 256
  · have a1 : (20 : Int) < (n : Int) := by omega
    have a2 : (n : Int) ≤ 256 := by omega
    clear hw1
    go_enter Tryz.func3, Tryz.ntmps3
    go_upto_region 1 with fail
    generalize (w.alloc (.cells A 25)) = W0 at F0 ⊢
    go_wp2_with fail
    refine (Haw.out _ F0.out.1).mono ?_
    rintro e w1 ⟨rfl, hb1⟩
    go_wp2_with fail
    refine (Haw.out _ (bt_trans F0.out.1 hb1)).mono ?_
    rintro e w2 ⟨rfl, hb2⟩
    go_wp2
    go_ret
    exact ⟨rfl, bt_trans (bt_trans F0.out.1 hb1) hb2⟩
  by_cases hw2 : 258 < n
  · have a1 : (20 : Int) < (n : Int) := by omega
    have a2 : ¬ (n : Int) ≤ 256 := by omega
    have a3 : (258 : Int) < (n : Int) := by omega
    clear hw1 hw2
    go_enter Tryz.func3, Tryz.ntmps3
    go_upto_region 1 with fail
    generalize (w.alloc (.cells A 25)) = W0 at F0 ⊢
    go_wp2_with fail
    refine (Haw.out _ F0.out.1).mono ?_
    rintro e w1 ⟨rfl, hb1⟩
    go_wp2_with fail
    refine (Haw.out _ (bt_trans F0.out.1 hb1)).mono ?_
    rintro e w2 ⟨rfl, hb2⟩
    go_wp2
    go_ret
    exact ⟨rfl, bt_trans (bt_trans F0.out.1 hb1) hb2⟩
  have hn258 : n ≤ 258 := by omega
  have hshort : n ≤ 20 ∨ 256 < n := by omega
  clear hw1 hw2
  have hn1000 : n ≤ 1000 := by omega
  have Hway := Lib.hid (way_of o slot came)
  have H14 : Hid (∀ (W : World) (A' : Option Addr) (c' : Nat), Rd W A' (came.map Value.string) → Calls Tryz.prog 14 #[.agg o.cells.toArray, .int .i64 slot, .slice A' n c'] W fun x w' => x = .returned (.tuple #[.agg (deviateR o slot came).1.val, .int .i64 (deviateR o slot came).2]) ∧ Below W.heap.size W w') := fun W A' c' h => deviate_any o Ho.out _ rfl slot came A' n c' Hn.out (by omega) W h
  have H15 : Hid (∀ (W : World) (A' : Option Addr) (c' : Nat), Rd W A' (came.map Value.string) → Calls Tryz.prog 15 #[.agg o.cells.toArray, .int .i64 slot, .slice A' n c'] W fun x w' => (∃ v, x = .returned (.tuple #[v, .int .i64 (improperR o slot came).2]) ∧ SlK 1 w' v (improperR o slot came).1.length ((improperR o slot came).1.map (.int .i64))) ∧ Below W.heap.size W w') := fun W A' c' h => improper_any o Ho.out _ rfl slot came A' n c' Hn.out (by omega) W h
  generalize hD : (deviateR o slot came).1 = D at H14 Hway
  generalize (deviateR o slot came).2 = e1 at H14 Hway
  generalize (improperR o slot came).1 = I at H15 Hway
  generalize (improperR o slot came).2 = e2 at H15 Hway
  clear hD
  obtain ⟨di, dp, dc, dx⟩ := D
  replace H14 : Hid (∀ (W : World) (A' : Option Addr) (c' : Nat), Rd W A' (came.map Value.string) → Calls Tryz.prog 14 #[.agg o.cells.toArray, .int .i64 slot, .slice A' n c'] W fun x w' => x = .returned (.tuple #[.agg #[.int .i64 di, .string dp, .string dc, .string dx], .int .i64 e1]) ∧ Below W.heap.size W w') := H14.out
  have H16 : Hid ((∀ s ∈ o.b, s.size ≤ 60) → ∀ W : World, Calls Tryz.prog 16 #[.agg o.cells.toArray] W fun x w' => x = .returned (.int .i64 (checkLineup o)) ∧ Below W.heap.size W w') := fun hs W => refLineup_any o Ho.out _ rfl (fun s h => by have := hs s h; omega) W
  have H17 : Hid (∀ W : World, Rd W C (came.map Value.string) → Calls Tryz.prog 17 #[.agg o.cells.toArray, .int .i64 slot, .slice C n c] W fun x w' => x = .returned (.int .i64 (refCameL o slot came)) ∧ Below W.heap.size W w') := fun W h => refCame_any o Ho.out _ rfl slot came C n c Hn.out (by omega) W h
  have Hi25 := Lib.hid (size25' o Ho.out)
  have Hi25' : Hid ((Tryz.prog.info? 25).map (·.size) = some o.cells.toArray.size) := by rw [List.size_toArray]; exact Hi25.out
  have Hb9 : Hid (∀ (W : World) (k : Nat), Bk W w.heap.size 25 o.cells.toArray → k < 9 → W.cell? ⟨w.heap.size, k, none⟩ = some (.string (o.b.getD k .empty))) := fun W k h hk => LU.cell_b Ho.out h k hk
  go_enter Tryz.func3, Tryz.ntmps3
  go_upto_region 1 with fail
  generalize (w.alloc (.cells A 25)) = W0 at F0 ⊢
  obtain ⟨P, kP, hP0, oP, sP⟩ : ∃ P : World → Prop, Keep P ∧ P W0 ∧ Hid (∀ X, P X → Below w.heap.size w X ∧ Bk X w.heap.size 25 o.cells.toArray ∧ Rd X C (came.map Value.string)) ∧ Hid (∀ (X : World) (g : Nat) (x0 x1 x2 x3 : Value), P X → w.heap.size < g → P ((((X.setCell ⟨g, 0, none⟩ x0).setCell ⟨g, 1, none⟩ x1).setCell ⟨g, 2, none⟩ x2).setCell ⟨g, 3, none⟩ x3)) := ⟨fun X => Below w.heap.size w X ∧ Bk X w.heap.size 25 o.cells.toArray ∧ Rd X C (came.map Value.string), keep_and (keep_below w) (keep_and (keep_bk _ _ _) (keep_rd _ _)), ⟨F0.out.1, F0.out.2, Hc.out.below F0.out.1⟩, fun _ h => h, fun X g x0 x1 x2 x3 h hg => sP_of h Hc.out hg⟩
  clear F0
  go_cut [34] from 18 (fun s34 w2 => s34 = .bool false ∧ P w2)
  case first =>
    rcases hshort with h20 | h256
    · have a1 : ¬ (20 : Int) < (n : Int) := by omega
      have a3 : ¬ (258 : Int) < (n : Int) := by omega
      have b1 : decide ((20 : Int) < (n : Int)) = false := decide_eq_false a1
      have b3 : decide ((258 : Int) < (n : Int)) = false := decide_eq_false a3
      clear h20 hn258
      go_wp2_with fail
      refine (Haw.out _ (oP.out _ hP0).1).mono ?_
      rintro e w1 ⟨rfl, hb1⟩
      go_wp2
      go_meet
      exact ⟨by simp, kP _ _ hP0 hb1⟩
    · have a1 : (20 : Int) < (n : Int) := by omega
      have a2 : ¬ (n : Int) ≤ 256 := by omega
      have a3 : ¬ (258 : Int) < (n : Int) := by omega
      have b1 : decide ((20 : Int) < (n : Int)) = true := decide_eq_true a1
      have b2 : decide ((n : Int) ≤ 256) = false := decide_eq_false a2
      have b3 : decide ((258 : Int) < (n : Int)) = false := decide_eq_false a3
      clear h256 hn258
      go_wp2_with fail
      refine (Haw.out _ (oP.out _ hP0).1).mono ?_
      rintro e w1 ⟨rfl, hb1⟩
      go_wp2
      go_meet
      exact ⟨by simp, kP _ _ hP0 hb1⟩
  case rest =>
  obtain ⟨rfl, hP⟩ := hcut
  revert hP
  generalize wc = w1
  intro hP
  clear hP0
  go_upto_region 4 with fail
  go_loop [38] (fun i => ∃ k : Nat, k ≤ n ∧ i = .int .i64 k) (fun i => n - (intOf i).toNat)
  case atStart => exact ⟨0, Nat.zero_le _, rfl⟩
  case round =>
    obtain ⟨k, hk, rfl⟩ := hrel
    by_cases hkn : k < n
    · obtain ⟨b, off, rfl, hc1⟩ := (oP.out _ hP).2.2.str (k := k) (by rw [Hn.out]; exact hkn)
      generalize came.getD k .empty = s at hc1
      by_cases h60 : 60 < s.size
      · have h60' : (60 : Int) < (s.size : Int) := by omega
        go_wp2_with fail
        refine (Haw.out _ (oP.out _ hP).1).mono ?_
        rintro e w2 ⟨rfl, hb2⟩
        go_wp2
        go_ret
        exact ⟨rfl, bt_trans (oP.out _ hP).1 hb2⟩
      · have h60' : ¬ (60 : Int) < (s.size : Int) := by omega
        go_wp2
        go_round
        case rel => exact ⟨k + 1, by omega, by go_num⟩
        case measure => simp [intOf]; omega
    · obtain rfl : k = n := by omega
      have hX : ∀ j, j < (o.b.map Value.string).length → w1.cell? ⟨w.heap.size, 0 + j, none⟩ = (o.b.map Value.string)[j]? := fun j hj => by
        have hj9 : j < 9 := by simpa [Ho.out.1] using hj
        rw [Nat.zero_add, Hb9.out w1 j (oP.out _ hP).2.1 hj9, getD_map_str _ _ (by rw [Ho.out.1]; exact hj9)]
      have HX := Lib.hid hX; clear hX
      have Hi22 : Hid ((Tryz.prog.info? 22).map (·.size) = some (o.b.map Value.string).length) := by show _ = _; rw [info22]; simp [Ho.out.1]
      go_upto_region 9 with fail
      go_upto_region 10 with (refine wpList_load_cells rfl 22 _ rfl w.heap.size 0 rfl (o.b.map Value.string) HX.out _ Tryz.underlying22 rfl Hi22.out ?_)
      go_loop [49] (fun i => ∃ m : Nat, m ≤ 9 ∧ i = .int .i64 m ∧ ∀ j, j < m → (o.b.getD j .empty).size ≤ 60) (fun i => 9 - (intOf i).toNat)
      case atStart => exact ⟨0, Nat.zero_le _, rfl, fun j hj => by omega⟩
      case round =>
        obtain ⟨m, hm, rfl, hsz⟩ := hrel
        have Hsz := Lib.hid hsz; clear hsz
        by_cases hm9 : m < 9
        · have hml : m < o.b.length := by rw [Ho.out.1]; exact hm9
          have hix : ∀ W, (Instr.index 22 (.agg (o.b.map Value.string).toArray) (.int .i64 m)).run Tryz.prog W = .ok (.string (o.b.getD m .empty)) W := fun W =>
            run_index_agg W 22 9 9 (o.b.map Value.string) m _ Tryz.underlying22 hm9 agg9 size9 (by simp [List.getD, List.getElem?_eq_getElem hml])
          generalize hs : o.b.getD m .empty = s at hix
          have Hs := Lib.hid hs; clear hs
          by_cases h60 : 60 < s.size
          · have h60' : (60 : Int) < (s.size : Int) := by omega
            go_wp2_with fail
            refine (Haw.out _ (oP.out _ hP).1).mono ?_
            rintro e w2 ⟨rfl, hb2⟩
            go_wp2
            go_ret
            exact ⟨rfl, bt_trans (oP.out _ hP).1 hb2⟩
          · have h60' : ¬ (60 : Int) < (s.size : Int) := by omega
            go_wp2
            go_round
            case rel =>
              refine ⟨m + 1, by omega, by go_num, fun j hj => ?_⟩
              rcases Nat.lt_succ_iff_lt_or_eq.1 hj with h1 | rfl
              · exact Hsz.out j h1
              · rw [Hs.out]; omega
            case measure => simp [intOf]; omega
        · obtain rfl : m = 9 := by omega
          have hall : ∀ s ∈ o.b, s.size ≤ 60 := fun s hs => by
            obtain ⟨j, hj, rfl⟩ := List.getElem_of_mem hs
            have := Hsz.out j (by rw [Ho.out.1] at hj; exact hj)
            simpa [List.getD, List.getElem?_eq_getElem hj] using this
          have H16' := Lib.hid (H16.out hall)
          clear hall Hsz H16 HX Hi22 Hb9
          generalize (o.b.map Value.string) = XB
          generalize hoc : o.cells = oc at H14 H15 H16' H17 Hi25 Hi25' oP
          have Hoc := Lib.hid hoc; clear hoc
          go_upto_region 15 with fail
          have hS : ∀ X, P X → X.rangeAt w.heap.size 0 oc := fun X h => bkRange (oP.out X h).2.1
          have HS := Lib.hid hS; clear hS
          go_cut [11, 12] from 38 (fun s11 s12 wr => s12 = .int .i64 e1 ∧ P wr ∧ ∃ g, s11 = .pointer (some ⟨g, 0, none⟩) ∧ Bk wr g 29 #[.int .i64 di, .string dp, .string dc, .string dx])
          case first =>
            have hP0 : P w1.drew := kP _ _ hP (bt_drew (Below.refl _ w1))
            have hPE : P (w1.alloc (.cells #[] 9)).drew := kP _ _ hP (bt_drew (bt_new w1 (.cells #[] 9)))
            have hPDq : P (w1.alloc (.cells #[.int .i64 0, .string { data := #[] }, .string { data := #[] }, .string { data := #[] }] 29)).drew := kP _ _ hP (bt_drew (bt_new w1 _))
            have hPED : P ((w1.alloc (.cells #[] 9)).alloc (.cells #[.int .i64 0, .string { data := #[] }, .string { data := #[] }, .string { data := #[] }] 29)).drew := kP _ _ hP (bt_drew (bt_alloc (bt_new w1 _) _))
            have hownE : (w1.alloc (.cells #[] 9)).drew.ownsRow w1.heap.size 9 1 (.slice (some ⟨w1.heap.size, 0, none⟩) 0 0) 0 [] := World.ownsRow_made w1 #[] 0 (Nat.le_refl _) (Nat.zero_le _) rfl
            have hownED : ((w1.alloc (.cells #[] 9)).alloc (.cells #[.int .i64 0, .string { data := #[] }, .string { data := #[] }, .string { data := #[] }] 29)).drew.ownsRow w1.heap.size 9 1 (.slice (some ⟨w1.heap.size, 0, none⟩) 0 0) 0 [] := World.ownsRow.alloc (World.ownsRow_made w1 #[] 0 (Nat.le_refl _) (Nat.zero_le _) rfl) _
            have hwl : w.heap.size < w1.heap.size := (oP.out _ hP).2.1.lt
            refine wp_region_held_drew (S := fun W => W.rangeAt w.heap.size 0 oc) (by kernel_rfl) (HS.out _ hP0) (fun hHeld => ?_)
            refine' wpAnyH_take (i := 0) (oi := { dst := some 58, op := Op.load 25 (Operand.tmp 3), type := 25, pos := "law.go:220", after := #[], guard := none }) (v := _) rfl (by kernel_rfl) (by kernel_rfl) (by kernel_rfl) (fun _ _ _ h => h) (yieldsIf_load_mid (by kernel_rfl) _ _ rfl _ _ rfl (oc) _ (fun W h => h) Tryz.underlying25 rfl (Hi25.out)) (by assumption) ?rest1
            try simp only [Act.put, List.setIfInBounds_toArray, List.set_cons_zero, List.set_cons_succ]
            refine' wpAnyH_take (i := 1) (oi := { dst := some 59, op := Op.move (Operand.tmp 1), type := 3, pos := "law.go:220", after := #[], guard := none }) (v := _) rfl (by kernel_rfl) (by kernel_rfl) (by kernel_rfl) (fun _ _ _ h => h) (Or.inl ⟨by kernel_rfl, ?hy2⟩) (by assumption) ?rest2
            case hy2 => (intro W hSW; (try dsimp only at hSW); go_simp; with_reducible rfl)
            try simp only [Act.put, List.setIfInBounds_toArray, List.set_cons_zero, List.set_cons_succ]
            refine' wpAnyH_take (i := 3) (oi := { dst := some 61, op := Op.move (Operand.tmp 2), type := 26, pos := "law.go:220", after := #[], guard := none }) (v := _) rfl (by kernel_rfl) (by kernel_rfl) (by kernel_rfl) (fun _ _ _ h => h) (Or.inl ⟨by kernel_rfl, ?hy3⟩) (by assumption) ?rest3
            case hy3 => (intro W hSW; (try dsimp only at hSW); go_simp; with_reducible rfl)
            try simp only [Act.put, List.setIfInBounds_toArray, List.set_cons_zero, List.set_cons_succ]
            refine wpAnyH_ready (rs := [2, 9]) (by kernel_rfl) (by simp) ?_
            refine AllReadyH.cons (o := { dst := some 60, op := Op.buildSlice 26 0 #[], type := 26, pos := "law.go:220", after := #[], guard := none }) rfl (fun K hK => ?_) (AllReadyH.cons (o := { dst := some 11, op := Op.alloc 29, type := 0, pos := "law.go:220", after := #[], guard := none }) rfl (fun K hK => ?_) AllReadyH.nil)
            · go_simp
              refine hK.out _ _ (HS.out _ hPE) (fun hHeld => ?_)
              clear hK K hHeld
              try simp only [Act.put, List.setIfInBounds_toArray, List.set_cons_zero, List.set_cons_succ]
              refine wpAnyH_ready (rs := [4, 9]) (by kernel_rfl) (by simp) ?_
              refine AllReadyH.cons (o := { dst := some 62, op := Op.call { callee := Callee.builtin Builtin.append, args := #[Operand.tmp 60, Operand.tmp 61], argTypes := #[26, 26] }, type := 26, pos := "law.go:220", after := #[{ on := 2, ground := Ground.data }, { on := 3, ground := Ground.data }], guard := none }) rfl (fun K hK => ?_) (AllReadyH.cons (o := { dst := some 11, op := Op.alloc 29, type := 0, pos := "law.go:220", after := #[], guard := none }) rfl (fun K hK => ?_) AllReadyH.nil)
              · refine step_app rfl _ _ rfl _ rfl C k c came rfl w1.heap.size hownE Hn.out (oP.out _ hPE).2.2 Hnil.out (by omega) (by simp) ?_
                intro A5 c5 w5 hr5 hg5
                have hbl5 : Below w1.heap.size w1 w5 := (bt_drew (bt_new w1 (.cells #[] 9))).grown hg5 (by simp) (fun q e => by have h9 := Option.some.inj (show some w1.heap.size = some q from e); omega)
                have hP5 := kP _ _ hP hbl5
                refine hK.out _ _ (HS.out _ hP5) (fun hHeld => ?_)
                clear hK K hHeld hbl5 hg5
                try simp only [Act.put, List.setIfInBounds_toArray, List.set_cons_zero, List.set_cons_succ]
                refine wpAnyH_ready (rs := [5, 9]) (by kernel_rfl) (by simp) ?_
                refine AllReadyH.cons (o := { dst := some 63, op := Op.call { callee := Callee.value (Operand.func 14), args := #[Operand.tmp 58, Operand.tmp 59, Operand.tmp 62], argTypes := #[33, 3, 26] }, type := 31, pos := "law.go:220", after := #[{ on := 0, ground := Ground.data }, { on := 1, ground := Ground.data }, { on := 4, ground := Ground.data }, { on := 4, ground := Ground.chain }], guard := none }) rfl (fun K hK => ?_) (AllReadyH.cons (o := { dst := some 11, op := Op.alloc 29, type := 0, pos := "law.go:220", after := #[], guard := none }) rfl (fun K hK => ?_) AllReadyH.nil)
                · go_simp
                  go_at_call 14
                  refine (H14.out _ _ _ hr5).mono ?_
                  rintro e w6 ⟨rfl, hb⟩
                  go_wp2_with fail
                  have hb6 := hb
                  refine hK.out _ _ (HS.out _ (kP _ _ hP5 hb6)) (fun hHeld => ?_)
                  clear hK K hHeld
                  try simp only [Act.put, List.setIfInBounds_toArray, List.set_cons_zero, List.set_cons_succ]
                  have hP6 := kP _ _ hP5 hb6
                  clear hb hb6 hr5 hP5
                  have hHeld := HS.out _ hP6
                  refine' wpAnyH_take (i := 6) (oi := { dst := some 57, op := Op.move (Operand.tmp 63), type := 31, pos := "law.go:220", after := #[{ on := 5, ground := Ground.data }], guard := none }) (v := _) rfl (by kernel_rfl) (by kernel_rfl) (by kernel_rfl) (fun _ _ _ h => h) (Or.inl ⟨by kernel_rfl, ?hy4⟩) (by assumption) ?rest4
                  case hy4 => (intro W hSW; (try dsimp only at hSW); go_simp; with_reducible rfl)
                  try simp only [Act.put, List.setIfInBounds_toArray, List.set_cons_zero, List.set_cons_succ]
                  refine' wpAnyH_take (i := 7) (oi := { dst := some 64, op := Op.extract (Operand.tmp 57) 0, type := 29, pos := "law.go:220", after := #[{ on := 6, ground := Ground.data }], guard := none }) (v := _) rfl (by kernel_rfl) (by kernel_rfl) (by kernel_rfl) (fun _ _ _ h => h) (Or.inl ⟨by kernel_rfl, ?hy5⟩) (by assumption) ?rest5
                  case hy5 => (intro W hSW; (try dsimp only at hSW); go_simp; with_reducible rfl)
                  try simp only [Act.put, List.setIfInBounds_toArray, List.set_cons_zero, List.set_cons_succ]
                  refine' wpAnyH_take (i := 8) (oi := { dst := some 65, op := Op.extract (Operand.tmp 57) 1, type := 30, pos := "law.go:220", after := #[{ on := 6, ground := Ground.data }, { on := 10, ground := Ground.gcOnly Departure.lateStores }], guard := none }) (v := _) rfl (by kernel_rfl) (by kernel_rfl) (by kernel_rfl) (fun _ _ _ h => h) (Or.inl ⟨by kernel_rfl, ?hy6⟩) (by assumption) ?rest6
                  case hy6 => (intro W hSW; (try dsimp only at hSW); go_simp; with_reducible rfl)
                  try simp only [Act.put, List.setIfInBounds_toArray, List.set_cons_zero, List.set_cons_succ]
                  clear hHeld
                  refine wpAnyH_ready (rs := [9]) (by kernel_rfl) (by simp) ?_
                  refine AllReadyH.cons (o := { dst := some 11, op := Op.alloc 29, type := 0, pos := "law.go:220", after := #[], guard := none }) rfl (fun K hK => ?_) AllReadyH.nil
                  go_simp
                  refine hK.out _ _ (HS.out _ (kP _ _ hP6 (bt_new _ _))) (fun hHeld => ?_)
                  clear hK K
                  try simp only [Act.put, List.setIfInBounds_toArray, List.set_cons_zero, List.set_cons_succ]
                  clear hHeld
                  have hPD := kP _ _ hP6 (bt_new w6 (.cells #[.int .i64 0, .string { data := #[] }, .string { data := #[] }, .string { data := #[] }] 29))
                  have hbD := Bk.new w6 29 #[.int .i64 0, .string { data := #[] }, .string { data := #[] }, .string { data := #[] }]
                  have hgw : w.heap.size < w6.heap.size := (oP.out _ hP6).2.1.lt
                  generalize (w6.alloc (.cells #[.int .i64 0, .string { data := #[] }, .string { data := #[] }, .string { data := #[] }] 29)) = WD at hPD hbD ⊢
                  generalize w6.heap.size = gD at hbD hgw ⊢
                  clear hP6
                  have hHeld := HS.out _ hPD
                  have z0 : WD.cell? ⟨gD, 0, none⟩ = some (.int .i64 0) := by rw [hbD.cell]; rfl
                  have z1 : WD.cell? ⟨gD, 1, none⟩ = some (.string { data := #[] }) := by rw [hbD.cell]; rfl
                  have z2 : WD.cell? ⟨gD, 2, none⟩ = some (.string { data := #[] }) := by rw [hbD.cell]; rfl
                  have z3 : WD.cell? ⟨gD, 3, none⟩ = some (.string { data := #[] }) := by rw [hbD.cell]; rfl
                  have f0 := hbD.frozen 0; have f1 := hbD.frozen 1; have f2 := hbD.frozen 2; have f3 := hbD.frozen 3
                  have hgl := hbD.lt
                  have hPS : P ((((WD.setCell ⟨gD, 0, none⟩ (.int .i64 di)).setCell ⟨gD, 1, none⟩ (.string dp)).setCell ⟨gD, 2, none⟩ (.string dc)).setCell ⟨gD, 3, none⟩ (.string dx)) := sP.out _ _ _ _ _ _ hPD hgw
                  have hbS := store4 (x0 := .int .i64 di) (x1 := .string dp) (x2 := .string dc) (x3 := .string dx) hbD
                  refine wpAnyH_ready (rs := [10]) (by kernel_rfl) (by simp) ?_
                  refine AllReadyH.cons (o := { dst := none, op := Op.store 29 (Operand.tmp 11) (Operand.tmp 64), type := 0, pos := "law.go:220", after := #[{ on := 9, ground := Ground.data }, { on := 7, ground := Ground.data }, { on := 5, ground := Ground.chain }, { on := 0, ground := Ground.phase }, { on := 1, ground := Ground.phase }, { on := 2, ground := Ground.phase }, { on := 3, ground := Ground.phase }, { on := 4, ground := Ground.phase }, { on := 5, ground := Ground.phase }, { on := 6, ground := Ground.phase }, { on := 7, ground := Ground.phase }, { on := 8, ground := Ground.textOnly Departure.lateStores }, { on := 9, ground := Ground.phase }], guard := none }) rfl (fun K hK => ?_) AllReadyH.nil
                  go_simp
                  refine hK.out _ _ (HS.out _ hPS) (fun hHeld => ?_)
                  clear hK K
                  try simp only [Act.put, List.setIfInBounds_toArray, List.set_cons_zero, List.set_cons_succ]
                  clear hHeld
                  refine wpAnyH_ready (rs := [11]) (by kernel_rfl) (by simp) ?_
                  refine AllReadyH.cons (o := { dst := some 12, op := Op.assign (Operand.tmp 65), type := 30, pos := "law.go:220", after := #[{ on := 8, ground := Ground.data }, { on := 10, ground := Ground.chain }, { on := 0, ground := Ground.phase }, { on := 1, ground := Ground.phase }, { on := 2, ground := Ground.phase }, { on := 3, ground := Ground.phase }, { on := 4, ground := Ground.phase }, { on := 5, ground := Ground.phase }, { on := 6, ground := Ground.phase }, { on := 7, ground := Ground.phase }, { on := 8, ground := Ground.phase }, { on := 9, ground := Ground.phase }, { on := 10, ground := Ground.phase }], guard := none }) rfl (fun K hK => ?_) AllReadyH.nil
                  go_simp
                  refine hK.out _ _ (HS.out _ hPS) (fun hHeld => ?_)
                  clear hK K
                  try simp only [Act.put, List.setIfInBounds_toArray, List.set_cons_zero, List.set_cons_succ]
                  clear hHeld
                  refine wpAnyH_done (by kernel_rfl) ?_ _
                  clear z0 z1 z2 z3 f0 f1 f2 f3 hgl hPD hbD
                  generalize ((((WD.setCell ⟨gD, 0, none⟩ (.int .i64 di)).setCell ⟨gD, 1, none⟩ (.string dp)).setCell ⟨gD, 2, none⟩ (.string dc)).setCell ⟨gD, 3, none⟩ (.string dx)) = WS at hPS hbS ⊢
                  go_wp2_with fail
                  go_meet
                  exact ⟨rfl, hPS, gD, rfl, hbS⟩
                · go_simp
                  refine hK.out _ _ (HS.out _ (kP _ _ hP5 (bt_new _ _))) (fun hHeld => ?_)
                  clear hK K hHeld
                  try simp only [Act.put, List.setIfInBounds_toArray, List.set_cons_zero, List.set_cons_succ]
                  have hPD5 := kP _ _ hP5 (bt_new w5 (.cells #[.int .i64 0, .string { data := #[] }, .string { data := #[] }, .string { data := #[] }] 29))
                  have hbD5 := Bk.new w5 29 #[.int .i64 0, .string { data := #[] }, .string { data := #[] }, .string { data := #[] }]
                  have hgw : w.heap.size < w5.heap.size := (oP.out _ hP5).2.1.lt
                  have hr5' := hr5.below (bt_new w5 (.cells #[.int .i64 0, .string { data := #[] }, .string { data := #[] }, .string { data := #[] }] 29))
                  generalize (w5.alloc (.cells #[.int .i64 0, .string { data := #[] }, .string { data := #[] }, .string { data := #[] }] 29)) = WE at hPD5 hbD5 hr5' ⊢
                  generalize w5.heap.size = gD at hbD5 hgw ⊢
                  clear hP5 hr5
                  refine wpAnyH_ready (rs := [5]) (by kernel_rfl) (by simp) ?_
                  refine AllReadyH.cons (o := { dst := some 63, op := Op.call { callee := Callee.value (Operand.func 14), args := #[Operand.tmp 58, Operand.tmp 59, Operand.tmp 62], argTypes := #[33, 3, 26] }, type := 31, pos := "law.go:220", after := #[{ on := 0, ground := Ground.data }, { on := 1, ground := Ground.data }, { on := 4, ground := Ground.data }, { on := 4, ground := Ground.chain }], guard := none }) rfl (fun K hK => ?_) AllReadyH.nil
                  go_simp
                  go_at_call 14
                  refine (H14.out _ _ _ hr5').mono ?_
                  rintro e w6 ⟨rfl, hb⟩
                  go_wp2_with fail
                  refine hK.out _ _ (HS.out _ (kP _ _ hPD5 hb)) (fun hHeld => ?_)
                  clear hK K hHeld
                  try simp only [Act.put, List.setIfInBounds_toArray, List.set_cons_zero, List.set_cons_succ]
                  have hPD := kP _ _ hPD5 hb
                  have hbD := hbD5.below hb hbD5.lt
                  clear hb hr5' hPD5 hbD5
                  generalize w6 = WD at hPD hbD ⊢
                  have hHeld := HS.out _ hPD
                  refine' wpAnyH_take (i := 6) (oi := { dst := some 57, op := Op.move (Operand.tmp 63), type := 31, pos := "law.go:220", after := #[{ on := 5, ground := Ground.data }], guard := none }) (v := _) rfl (by kernel_rfl) (by kernel_rfl) (by kernel_rfl) (fun _ _ _ h => h) (Or.inl ⟨by kernel_rfl, ?hy7⟩) (by assumption) ?rest7
                  case hy7 => (intro W hSW; (try dsimp only at hSW); go_simp; with_reducible rfl)
                  try simp only [Act.put, List.setIfInBounds_toArray, List.set_cons_zero, List.set_cons_succ]
                  refine' wpAnyH_take (i := 7) (oi := { dst := some 64, op := Op.extract (Operand.tmp 57) 0, type := 29, pos := "law.go:220", after := #[{ on := 6, ground := Ground.data }], guard := none }) (v := _) rfl (by kernel_rfl) (by kernel_rfl) (by kernel_rfl) (fun _ _ _ h => h) (Or.inl ⟨by kernel_rfl, ?hy8⟩) (by assumption) ?rest8
                  case hy8 => (intro W hSW; (try dsimp only at hSW); go_simp; with_reducible rfl)
                  try simp only [Act.put, List.setIfInBounds_toArray, List.set_cons_zero, List.set_cons_succ]
                  refine' wpAnyH_take (i := 8) (oi := { dst := some 65, op := Op.extract (Operand.tmp 57) 1, type := 30, pos := "law.go:220", after := #[{ on := 6, ground := Ground.data }, { on := 10, ground := Ground.gcOnly Departure.lateStores }], guard := none }) (v := _) rfl (by kernel_rfl) (by kernel_rfl) (by kernel_rfl) (fun _ _ _ h => h) (Or.inl ⟨by kernel_rfl, ?hy9⟩) (by assumption) ?rest9
                  case hy9 => (intro W hSW; (try dsimp only at hSW); go_simp; with_reducible rfl)
                  try simp only [Act.put, List.setIfInBounds_toArray, List.set_cons_zero, List.set_cons_succ]
                  have z0 : WD.cell? ⟨gD, 0, none⟩ = some (.int .i64 0) := by rw [hbD.cell]; rfl
                  have z1 : WD.cell? ⟨gD, 1, none⟩ = some (.string { data := #[] }) := by rw [hbD.cell]; rfl
                  have z2 : WD.cell? ⟨gD, 2, none⟩ = some (.string { data := #[] }) := by rw [hbD.cell]; rfl
                  have z3 : WD.cell? ⟨gD, 3, none⟩ = some (.string { data := #[] }) := by rw [hbD.cell]; rfl
                  have f0 := hbD.frozen 0; have f1 := hbD.frozen 1; have f2 := hbD.frozen 2; have f3 := hbD.frozen 3
                  have hgl := hbD.lt
                  have hPS : P ((((WD.setCell ⟨gD, 0, none⟩ (.int .i64 di)).setCell ⟨gD, 1, none⟩ (.string dp)).setCell ⟨gD, 2, none⟩ (.string dc)).setCell ⟨gD, 3, none⟩ (.string dx)) := sP.out _ _ _ _ _ _ hPD hgw
                  have hbS := store4 (x0 := .int .i64 di) (x1 := .string dp) (x2 := .string dc) (x3 := .string dx) hbD
                  refine wpAnyH_ready (rs := [10]) (by kernel_rfl) (by simp) ?_
                  refine AllReadyH.cons (o := { dst := none, op := Op.store 29 (Operand.tmp 11) (Operand.tmp 64), type := 0, pos := "law.go:220", after := #[{ on := 9, ground := Ground.data }, { on := 7, ground := Ground.data }, { on := 5, ground := Ground.chain }, { on := 0, ground := Ground.phase }, { on := 1, ground := Ground.phase }, { on := 2, ground := Ground.phase }, { on := 3, ground := Ground.phase }, { on := 4, ground := Ground.phase }, { on := 5, ground := Ground.phase }, { on := 6, ground := Ground.phase }, { on := 7, ground := Ground.phase }, { on := 8, ground := Ground.textOnly Departure.lateStores }, { on := 9, ground := Ground.phase }], guard := none }) rfl (fun K hK => ?_) AllReadyH.nil
                  go_simp
                  refine hK.out _ _ (HS.out _ hPS) (fun hHeld => ?_)
                  clear hK K
                  try simp only [Act.put, List.setIfInBounds_toArray, List.set_cons_zero, List.set_cons_succ]
                  clear hHeld
                  refine wpAnyH_ready (rs := [11]) (by kernel_rfl) (by simp) ?_
                  refine AllReadyH.cons (o := { dst := some 12, op := Op.assign (Operand.tmp 65), type := 30, pos := "law.go:220", after := #[{ on := 8, ground := Ground.data }, { on := 10, ground := Ground.chain }, { on := 0, ground := Ground.phase }, { on := 1, ground := Ground.phase }, { on := 2, ground := Ground.phase }, { on := 3, ground := Ground.phase }, { on := 4, ground := Ground.phase }, { on := 5, ground := Ground.phase }, { on := 6, ground := Ground.phase }, { on := 7, ground := Ground.phase }, { on := 8, ground := Ground.phase }, { on := 9, ground := Ground.phase }, { on := 10, ground := Ground.phase }], guard := none }) rfl (fun K hK => ?_) AllReadyH.nil
                  go_simp
                  refine hK.out _ _ (HS.out _ hPS) (fun hHeld => ?_)
                  clear hK K
                  try simp only [Act.put, List.setIfInBounds_toArray, List.set_cons_zero, List.set_cons_succ]
                  clear hHeld
                  refine wpAnyH_done (by kernel_rfl) ?_ _
                  clear z0 z1 z2 z3 f0 f1 f2 f3 hgl hPD hbD
                  generalize ((((WD.setCell ⟨gD, 0, none⟩ (.int .i64 di)).setCell ⟨gD, 1, none⟩ (.string dp)).setCell ⟨gD, 2, none⟩ (.string dc)).setCell ⟨gD, 3, none⟩ (.string dx)) = WS at hPS hbS ⊢
                  go_wp2_with fail
                  go_meet
                  exact ⟨rfl, hPS, gD, rfl, hbS⟩
              · go_simp
                refine hK.out _ _ (HS.out _ hPED) (fun hHeld => ?_)
                clear hK K hHeld
                try simp only [Act.put, List.setIfInBounds_toArray, List.set_cons_zero, List.set_cons_succ]
                have hbE : Bk ((w1.alloc (.cells #[] 9)).alloc (.cells #[.int .i64 0, .string { data := #[] }, .string { data := #[] }, .string { data := #[] }] 29)).drew (w1.heap.size + 1) 29 #[.int .i64 0, .string { data := #[] }, .string { data := #[] }, .string { data := #[] }] := by
                  have := Bk.new (w1.alloc (.cells #[] 9)) 29 #[.int .i64 0, .string { data := #[] }, .string { data := #[] }, .string { data := #[] }]
                  rw [World.size_alloc] at this
                  exact this
                have hgw : w.heap.size < w1.heap.size + 1 := by omega
                refine wpAnyH_ready (rs := [4]) (by kernel_rfl) (by simp) ?_
                refine AllReadyH.cons (o := { dst := some 62, op := Op.call { callee := Callee.builtin Builtin.append, args := #[Operand.tmp 60, Operand.tmp 61], argTypes := #[26, 26] }, type := 26, pos := "law.go:220", after := #[{ on := 2, ground := Ground.data }, { on := 3, ground := Ground.data }], guard := none }) rfl (fun K hK => ?_) AllReadyH.nil
                refine step_app rfl _ _ rfl _ rfl C k c came rfl w1.heap.size hownED Hn.out (oP.out _ hPED).2.2 Hnil.out (by omega) (by simp; omega) ?_
                intro A5 c5 w5 hr5 hg5
                have hbl5 : Below w1.heap.size w1 w5 := (bt_drew (bt_alloc (bt_new w1 (.cells #[] 9)) (.cells #[.int .i64 0, .string { data := #[] }, .string { data := #[] }, .string { data := #[] }] 29))).grown hg5 (by simp; omega) (fun q e => by have h9 := Option.some.inj (show some w1.heap.size = some q from e); omega)
                have hP5 := kP _ _ hP hbl5
                have hbD5 : Bk w5 (w1.heap.size + 1) 29 #[.int .i64 0, .string { data := #[] }, .string { data := #[] }, .string { data := #[] }] := (hg5.block _ hbE.lt (fun e => by have h9 := Option.some.inj (show some (w1.heap.size + 1) = some w1.heap.size from e); omega)).trans hbE
                refine hK.out _ _ (HS.out _ hP5) (fun hHeld => ?_)
                clear hK K hHeld
                try simp only [Act.put, List.setIfInBounds_toArray, List.set_cons_zero, List.set_cons_succ]
                clear hbE hbl5 hg5
                generalize w1.heap.size + 1 = gD at hbD5 hgw ⊢
                refine wpAnyH_ready (rs := [5]) (by kernel_rfl) (by simp) ?_
                refine AllReadyH.cons (o := { dst := some 63, op := Op.call { callee := Callee.value (Operand.func 14), args := #[Operand.tmp 58, Operand.tmp 59, Operand.tmp 62], argTypes := #[33, 3, 26] }, type := 31, pos := "law.go:220", after := #[{ on := 0, ground := Ground.data }, { on := 1, ground := Ground.data }, { on := 4, ground := Ground.data }, { on := 4, ground := Ground.chain }], guard := none }) rfl (fun K hK => ?_) AllReadyH.nil
                go_simp
                go_at_call 14
                refine (H14.out _ _ _ hr5).mono ?_
                rintro e w6 ⟨rfl, hb⟩
                go_wp2_with fail
                refine hK.out _ _ (HS.out _ (kP _ _ hP5 hb)) (fun hHeld => ?_)
                clear hK K hHeld
                try simp only [Act.put, List.setIfInBounds_toArray, List.set_cons_zero, List.set_cons_succ]
                have hPD := kP _ _ hP5 hb
                have hbD := hbD5.below hb hbD5.lt
                clear hb hr5 hP5 hbD5
                generalize w6 = WD at hPD hbD ⊢
                have hHeld := HS.out _ hPD
                refine' wpAnyH_take (i := 6) (oi := { dst := some 57, op := Op.move (Operand.tmp 63), type := 31, pos := "law.go:220", after := #[{ on := 5, ground := Ground.data }], guard := none }) (v := _) rfl (by kernel_rfl) (by kernel_rfl) (by kernel_rfl) (fun _ _ _ h => h) (Or.inl ⟨by kernel_rfl, ?hy10⟩) (by assumption) ?rest10
                case hy10 => (intro W hSW; (try dsimp only at hSW); go_simp; with_reducible rfl)
                try simp only [Act.put, List.setIfInBounds_toArray, List.set_cons_zero, List.set_cons_succ]
                refine' wpAnyH_take (i := 7) (oi := { dst := some 64, op := Op.extract (Operand.tmp 57) 0, type := 29, pos := "law.go:220", after := #[{ on := 6, ground := Ground.data }], guard := none }) (v := _) rfl (by kernel_rfl) (by kernel_rfl) (by kernel_rfl) (fun _ _ _ h => h) (Or.inl ⟨by kernel_rfl, ?hy11⟩) (by assumption) ?rest11
                case hy11 => (intro W hSW; (try dsimp only at hSW); go_simp; with_reducible rfl)
                try simp only [Act.put, List.setIfInBounds_toArray, List.set_cons_zero, List.set_cons_succ]
                refine' wpAnyH_take (i := 8) (oi := { dst := some 65, op := Op.extract (Operand.tmp 57) 1, type := 30, pos := "law.go:220", after := #[{ on := 6, ground := Ground.data }, { on := 10, ground := Ground.gcOnly Departure.lateStores }], guard := none }) (v := _) rfl (by kernel_rfl) (by kernel_rfl) (by kernel_rfl) (fun _ _ _ h => h) (Or.inl ⟨by kernel_rfl, ?hy12⟩) (by assumption) ?rest12
                case hy12 => (intro W hSW; (try dsimp only at hSW); go_simp; with_reducible rfl)
                try simp only [Act.put, List.setIfInBounds_toArray, List.set_cons_zero, List.set_cons_succ]
                have z0 : WD.cell? ⟨gD, 0, none⟩ = some (.int .i64 0) := by rw [hbD.cell]; rfl
                have z1 : WD.cell? ⟨gD, 1, none⟩ = some (.string { data := #[] }) := by rw [hbD.cell]; rfl
                have z2 : WD.cell? ⟨gD, 2, none⟩ = some (.string { data := #[] }) := by rw [hbD.cell]; rfl
                have z3 : WD.cell? ⟨gD, 3, none⟩ = some (.string { data := #[] }) := by rw [hbD.cell]; rfl
                have f0 := hbD.frozen 0; have f1 := hbD.frozen 1; have f2 := hbD.frozen 2; have f3 := hbD.frozen 3
                have hgl := hbD.lt
                have hPS : P ((((WD.setCell ⟨gD, 0, none⟩ (.int .i64 di)).setCell ⟨gD, 1, none⟩ (.string dp)).setCell ⟨gD, 2, none⟩ (.string dc)).setCell ⟨gD, 3, none⟩ (.string dx)) := sP.out _ _ _ _ _ _ hPD hgw
                have hbS := store4 (x0 := .int .i64 di) (x1 := .string dp) (x2 := .string dc) (x3 := .string dx) hbD
                refine wpAnyH_ready (rs := [10]) (by kernel_rfl) (by simp) ?_
                refine AllReadyH.cons (o := { dst := none, op := Op.store 29 (Operand.tmp 11) (Operand.tmp 64), type := 0, pos := "law.go:220", after := #[{ on := 9, ground := Ground.data }, { on := 7, ground := Ground.data }, { on := 5, ground := Ground.chain }, { on := 0, ground := Ground.phase }, { on := 1, ground := Ground.phase }, { on := 2, ground := Ground.phase }, { on := 3, ground := Ground.phase }, { on := 4, ground := Ground.phase }, { on := 5, ground := Ground.phase }, { on := 6, ground := Ground.phase }, { on := 7, ground := Ground.phase }, { on := 8, ground := Ground.textOnly Departure.lateStores }, { on := 9, ground := Ground.phase }], guard := none }) rfl (fun K hK => ?_) AllReadyH.nil
                go_simp
                refine hK.out _ _ (HS.out _ hPS) (fun hHeld => ?_)
                clear hK K
                try simp only [Act.put, List.setIfInBounds_toArray, List.set_cons_zero, List.set_cons_succ]
                clear hHeld
                refine wpAnyH_ready (rs := [11]) (by kernel_rfl) (by simp) ?_
                refine AllReadyH.cons (o := { dst := some 12, op := Op.assign (Operand.tmp 65), type := 30, pos := "law.go:220", after := #[{ on := 8, ground := Ground.data }, { on := 10, ground := Ground.chain }, { on := 0, ground := Ground.phase }, { on := 1, ground := Ground.phase }, { on := 2, ground := Ground.phase }, { on := 3, ground := Ground.phase }, { on := 4, ground := Ground.phase }, { on := 5, ground := Ground.phase }, { on := 6, ground := Ground.phase }, { on := 7, ground := Ground.phase }, { on := 8, ground := Ground.phase }, { on := 9, ground := Ground.phase }, { on := 10, ground := Ground.phase }], guard := none }) rfl (fun K hK => ?_) AllReadyH.nil
                go_simp
                refine hK.out _ _ (HS.out _ hPS) (fun hHeld => ?_)
                clear hK K
                try simp only [Act.put, List.setIfInBounds_toArray, List.set_cons_zero, List.set_cons_succ]
                clear hHeld
                refine wpAnyH_done (by kernel_rfl) ?_ _
                clear z0 z1 z2 z3 f0 f1 f2 f3 hgl hPD hbD
                generalize ((((WD.setCell ⟨gD, 0, none⟩ (.int .i64 di)).setCell ⟨gD, 1, none⟩ (.string dp)).setCell ⟨gD, 2, none⟩ (.string dc)).setCell ⟨gD, 3, none⟩ (.string dx)) = WS at hPS hbS ⊢
                go_wp2_with fail
                go_meet
                exact ⟨rfl, hPS, gD, rfl, hbS⟩
            · go_simp
              refine hK.out _ _ (HS.out _ hPDq) (fun hHeld => ?_)
              clear hK K hHeld
              try simp only [Act.put, List.setIfInBounds_toArray, List.set_cons_zero, List.set_cons_succ]
              have hbE : Bk (w1.alloc (.cells #[.int .i64 0, .string { data := #[] }, .string { data := #[] }, .string { data := #[] }] 29)).drew w1.heap.size 29 #[.int .i64 0, .string { data := #[] }, .string { data := #[] }, .string { data := #[] }] := Bk.new w1 29 #[.int .i64 0, .string { data := #[] }, .string { data := #[] }, .string { data := #[] }]
              have hgw : w.heap.size < w1.heap.size := hwl
              generalize (w1.alloc (.cells #[.int .i64 0, .string { data := #[] }, .string { data := #[] }, .string { data := #[] }] 29)).drew = WE at hPDq hbE ⊢
              generalize w1.heap.size = gD at hbE hgw ⊢
              refine wpAnyH_ready (rs := [2]) (by kernel_rfl) (by simp) ?_
              refine AllReadyH.cons (o := { dst := some 60, op := Op.buildSlice 26 0 #[], type := 26, pos := "law.go:220", after := #[], guard := none }) rfl (fun K hK => ?_) AllReadyH.nil
              go_simp
              refine hK.out _ _ (HS.out _ (kP _ _ hPDq (bt_new _ _))) (fun hHeld => ?_)
              clear hK K
              try simp only [Act.put, List.setIfInBounds_toArray, List.set_cons_zero, List.set_cons_succ]
              clear hHeld
              have hown := World.ownsRow_made (base := WE.heap.size) (e := 9) (size := 1) WE #[] 0 (Nat.le_refl _) (Nat.zero_le _) rfl
              have hgE := hbE.lt
              refine wpAnyH_ready (rs := [4]) (by kernel_rfl) (by simp) ?_
              refine AllReadyH.cons (o := { dst := some 62, op := Op.call { callee := Callee.builtin Builtin.append, args := #[Operand.tmp 60, Operand.tmp 61], argTypes := #[26, 26] }, type := 26, pos := "law.go:220", after := #[{ on := 2, ground := Ground.data }, { on := 3, ground := Ground.data }], guard := none }) rfl (fun K hK => ?_) AllReadyH.nil
              refine step_app rfl _ _ rfl _ rfl C k c came rfl WE.heap.size hown Hn.out (oP.out _ (kP _ _ hPDq (bt_new _ _))).2.2 Hnil.out (by omega) (by simp) ?_
              intro A5 c5 w5 hr5 hg5
              have hbl5 : Below WE.heap.size WE w5 := (bt_new WE (.cells #[] 9)).grown hg5 (by simp) (fun q e => by have h9 := Option.some.inj (show some WE.heap.size = some q from e); omega)
              have hP5 := kP _ _ hPDq hbl5
              have hbD5 := hbE.below hbl5 hgE
              refine hK.out _ _ (HS.out _ hP5) (fun hHeld => ?_)
              clear hK K hHeld
              try simp only [Act.put, List.setIfInBounds_toArray, List.set_cons_zero, List.set_cons_succ]
              clear hown hbl5 hg5 hbE hgE
              refine wpAnyH_ready (rs := [5]) (by kernel_rfl) (by simp) ?_
              refine AllReadyH.cons (o := { dst := some 63, op := Op.call { callee := Callee.value (Operand.func 14), args := #[Operand.tmp 58, Operand.tmp 59, Operand.tmp 62], argTypes := #[33, 3, 26] }, type := 31, pos := "law.go:220", after := #[{ on := 0, ground := Ground.data }, { on := 1, ground := Ground.data }, { on := 4, ground := Ground.data }, { on := 4, ground := Ground.chain }], guard := none }) rfl (fun K hK => ?_) AllReadyH.nil
              go_simp
              go_at_call 14
              refine (H14.out _ _ _ hr5).mono ?_
              rintro e w6 ⟨rfl, hb⟩
              go_wp2_with fail
              refine hK.out _ _ (HS.out _ (kP _ _ hP5 hb)) (fun hHeld => ?_)
              clear hK K hHeld
              try simp only [Act.put, List.setIfInBounds_toArray, List.set_cons_zero, List.set_cons_succ]
              have hPD := kP _ _ hP5 hb
              have hbD := hbD5.below hb hbD5.lt
              clear hb hr5 hP5 hbD5
              generalize w6 = WD at hPD hbD ⊢
              have hHeld := HS.out _ hPD
              refine' wpAnyH_take (i := 6) (oi := { dst := some 57, op := Op.move (Operand.tmp 63), type := 31, pos := "law.go:220", after := #[{ on := 5, ground := Ground.data }], guard := none }) (v := _) rfl (by kernel_rfl) (by kernel_rfl) (by kernel_rfl) (fun _ _ _ h => h) (Or.inl ⟨by kernel_rfl, ?hy13⟩) (by assumption) ?rest13
              case hy13 => (intro W hSW; (try dsimp only at hSW); go_simp; with_reducible rfl)
              try simp only [Act.put, List.setIfInBounds_toArray, List.set_cons_zero, List.set_cons_succ]
              refine' wpAnyH_take (i := 7) (oi := { dst := some 64, op := Op.extract (Operand.tmp 57) 0, type := 29, pos := "law.go:220", after := #[{ on := 6, ground := Ground.data }], guard := none }) (v := _) rfl (by kernel_rfl) (by kernel_rfl) (by kernel_rfl) (fun _ _ _ h => h) (Or.inl ⟨by kernel_rfl, ?hy14⟩) (by assumption) ?rest14
              case hy14 => (intro W hSW; (try dsimp only at hSW); go_simp; with_reducible rfl)
              try simp only [Act.put, List.setIfInBounds_toArray, List.set_cons_zero, List.set_cons_succ]
              refine' wpAnyH_take (i := 8) (oi := { dst := some 65, op := Op.extract (Operand.tmp 57) 1, type := 30, pos := "law.go:220", after := #[{ on := 6, ground := Ground.data }, { on := 10, ground := Ground.gcOnly Departure.lateStores }], guard := none }) (v := _) rfl (by kernel_rfl) (by kernel_rfl) (by kernel_rfl) (fun _ _ _ h => h) (Or.inl ⟨by kernel_rfl, ?hy15⟩) (by assumption) ?rest15
              case hy15 => (intro W hSW; (try dsimp only at hSW); go_simp; with_reducible rfl)
              try simp only [Act.put, List.setIfInBounds_toArray, List.set_cons_zero, List.set_cons_succ]
              have z0 : WD.cell? ⟨gD, 0, none⟩ = some (.int .i64 0) := by rw [hbD.cell]; rfl
              have z1 : WD.cell? ⟨gD, 1, none⟩ = some (.string { data := #[] }) := by rw [hbD.cell]; rfl
              have z2 : WD.cell? ⟨gD, 2, none⟩ = some (.string { data := #[] }) := by rw [hbD.cell]; rfl
              have z3 : WD.cell? ⟨gD, 3, none⟩ = some (.string { data := #[] }) := by rw [hbD.cell]; rfl
              have f0 := hbD.frozen 0; have f1 := hbD.frozen 1; have f2 := hbD.frozen 2; have f3 := hbD.frozen 3
              have hgl := hbD.lt
              have hPS : P ((((WD.setCell ⟨gD, 0, none⟩ (.int .i64 di)).setCell ⟨gD, 1, none⟩ (.string dp)).setCell ⟨gD, 2, none⟩ (.string dc)).setCell ⟨gD, 3, none⟩ (.string dx)) := sP.out _ _ _ _ _ _ hPD hgw
              have hbS := store4 (x0 := .int .i64 di) (x1 := .string dp) (x2 := .string dc) (x3 := .string dx) hbD
              refine wpAnyH_ready (rs := [10]) (by kernel_rfl) (by simp) ?_
              refine AllReadyH.cons (o := { dst := none, op := Op.store 29 (Operand.tmp 11) (Operand.tmp 64), type := 0, pos := "law.go:220", after := #[{ on := 9, ground := Ground.data }, { on := 7, ground := Ground.data }, { on := 5, ground := Ground.chain }, { on := 0, ground := Ground.phase }, { on := 1, ground := Ground.phase }, { on := 2, ground := Ground.phase }, { on := 3, ground := Ground.phase }, { on := 4, ground := Ground.phase }, { on := 5, ground := Ground.phase }, { on := 6, ground := Ground.phase }, { on := 7, ground := Ground.phase }, { on := 8, ground := Ground.textOnly Departure.lateStores }, { on := 9, ground := Ground.phase }], guard := none }) rfl (fun K hK => ?_) AllReadyH.nil
              go_simp
              refine hK.out _ _ (HS.out _ hPS) (fun hHeld => ?_)
              clear hK K
              try simp only [Act.put, List.setIfInBounds_toArray, List.set_cons_zero, List.set_cons_succ]
              clear hHeld
              refine wpAnyH_ready (rs := [11]) (by kernel_rfl) (by simp) ?_
              refine AllReadyH.cons (o := { dst := some 12, op := Op.assign (Operand.tmp 65), type := 30, pos := "law.go:220", after := #[{ on := 8, ground := Ground.data }, { on := 10, ground := Ground.chain }, { on := 0, ground := Ground.phase }, { on := 1, ground := Ground.phase }, { on := 2, ground := Ground.phase }, { on := 3, ground := Ground.phase }, { on := 4, ground := Ground.phase }, { on := 5, ground := Ground.phase }, { on := 6, ground := Ground.phase }, { on := 7, ground := Ground.phase }, { on := 8, ground := Ground.phase }, { on := 9, ground := Ground.phase }, { on := 10, ground := Ground.phase }], guard := none }) rfl (fun K hK => ?_) AllReadyH.nil
              go_simp
              refine hK.out _ _ (HS.out _ hPS) (fun hHeld => ?_)
              clear hK K
              try simp only [Act.put, List.setIfInBounds_toArray, List.set_cons_zero, List.set_cons_succ]
              clear hHeld
              refine wpAnyH_done (by kernel_rfl) ?_ _
              clear z0 z1 z2 z3 f0 f1 f2 f3 hgl hPD hbD
              generalize ((((WD.setCell ⟨gD, 0, none⟩ (.int .i64 di)).setCell ⟨gD, 1, none⟩ (.string dp)).setCell ⟨gD, 2, none⟩ (.string dc)).setCell ⟨gD, 3, none⟩ (.string dx)) = WS at hPS hbS ⊢
              go_wp2_with fail
              go_meet
              exact ⟨rfl, hPS, gD, rfl, hbS⟩
          case rest =>
            obtain ⟨rfl, hPr, gD, rfl, hbD⟩ := hcut
            clear hP
            obtain ⟨P2, kP2, hP2, oP2⟩ : ∃ P2 : World → Prop, Keep P2 ∧ P2 wc ∧ Hid (∀ X, P2 X → P X ∧ Bk X gD 29 #[.int .i64 di, .string dp, .string dc, .string dx]) := ⟨fun X => P X ∧ Bk X gD 29 #[.int .i64 di, .string dp, .string dc, .string dx], keep_and kP (keep_bk _ _ _), ⟨hPr, hbD⟩, fun _ h => h⟩
            clear hPr hbD sP
            go_upto_region 16 with fail
            go_cut [13, 14] from 38 (fun s13 s14 wr => s14 = .int .i64 e2 ∧ P2 wr ∧ ∃ A' c', s13 = .slice A' I.length c' ∧ Rd wr A' (I.map (.int .i64)))
            case first =>
              have hP0 : P2 wc.drew := kP2 _ _ hP2 (bt_drew (Below.refl _ wc))
              have hPE : P2 (wc.alloc (.cells #[] 9)).drew := kP2 _ _ hP2 (bt_drew (bt_new wc (.cells #[] 9)))
              have hownE : (wc.alloc (.cells #[] 9)).drew.ownsRow wc.heap.size 9 1 (.slice (some ⟨wc.heap.size, 0, none⟩) 0 0) 0 [] := World.ownsRow_made wc #[] 0 (Nat.le_refl _) (Nat.zero_le _) rfl
              refine wp_region_held_drew (S := P2) (by kernel_rfl) (hP0) (fun hHeld => ?_)
              refine' wpAnyH_take (i := 0) (oi := { dst := some 67, op := Op.load 25 (Operand.tmp 3), type := 25, pos := "law.go:221", after := #[], guard := none }) (v := _) rfl (by kernel_rfl) (by kernel_rfl) (by kernel_rfl) (fun _ _ _ h => h) (yieldsIf_load_mid (by kernel_rfl) _ _ rfl _ _ rfl (oc) _ (fun W h => HS.out _ (oP2.out W h).1) Tryz.underlying25 rfl (Hi25.out)) (by assumption) ?rest16
              try simp only [Act.put, List.setIfInBounds_toArray, List.set_cons_zero, List.set_cons_succ]
              refine' wpAnyH_take (i := 1) (oi := { dst := some 68, op := Op.move (Operand.tmp 1), type := 3, pos := "law.go:221", after := #[], guard := none }) (v := _) rfl (by kernel_rfl) (by kernel_rfl) (by kernel_rfl) (fun _ _ _ h => h) (Or.inl ⟨by kernel_rfl, ?hy17⟩) (by assumption) ?rest17
              case hy17 => (intro W hSW; (try dsimp only at hSW); go_simp; with_reducible rfl)
              try simp only [Act.put, List.setIfInBounds_toArray, List.set_cons_zero, List.set_cons_succ]
              refine' wpAnyH_take (i := 3) (oi := { dst := some 70, op := Op.move (Operand.tmp 2), type := 26, pos := "law.go:221", after := #[], guard := none }) (v := _) rfl (by kernel_rfl) (by kernel_rfl) (by kernel_rfl) (fun _ _ _ h => h) (Or.inl ⟨by kernel_rfl, ?hy18⟩) (by assumption) ?rest18
              case hy18 => (intro W hSW; (try dsimp only at hSW); go_simp; with_reducible rfl)
              try simp only [Act.put, List.setIfInBounds_toArray, List.set_cons_zero, List.set_cons_succ]
              refine wpAnyH_ready (rs := [2]) (by kernel_rfl) (by simp) ?_
              refine AllReadyH.cons (o := { dst := some 69, op := Op.buildSlice 26 0 #[], type := 26, pos := "law.go:221", after := #[], guard := none }) rfl (fun K hK => ?_) AllReadyH.nil
              go_simp
              refine hK.out _ _ (hPE) (fun hHeld => ?_)
              clear hK K
              try simp only [Act.put, List.setIfInBounds_toArray, List.set_cons_zero, List.set_cons_succ]
              refine wpAnyH_ready (rs := [4]) (by kernel_rfl) (by simp) ?_
              refine AllReadyH.cons (o := { dst := some 71, op := Op.call { callee := Callee.builtin Builtin.append, args := #[Operand.tmp 69, Operand.tmp 70], argTypes := #[26, 26] }, type := 26, pos := "law.go:221", after := #[{ on := 2, ground := Ground.data }, { on := 3, ground := Ground.data }], guard := none }) rfl (fun K hK => ?_) AllReadyH.nil
              refine step_app rfl _ _ rfl _ rfl C k c came rfl wc.heap.size hownE Hn.out (oP.out _ (oP2.out _ hPE).1).2.2 Hnil.out (by omega) (by simp) ?_
              intro A5 c5 w5 hr5 hg5
              have hbl5 : Below wc.heap.size wc w5 := (bt_drew (bt_new wc (.cells #[] 9))).grown hg5 (by simp) (fun q e => by have h9 := Option.some.inj (show some wc.heap.size = some q from e); omega)
              have hP5 := kP2 _ _ hP2 hbl5
              refine hK.out _ _ hP5 (fun hHeld => ?_)
              clear hK K hHeld hbl5 hg5
              try simp only [Act.put, List.setIfInBounds_toArray, List.set_cons_zero, List.set_cons_succ]
              refine wpAnyH_ready (rs := [5]) (by kernel_rfl) (by simp) ?_
              refine AllReadyH.cons (o := { dst := some 72, op := Op.call { callee := Callee.value (Operand.func 15), args := #[Operand.tmp 67, Operand.tmp 68, Operand.tmp 71], argTypes := #[33, 3, 26] }, type := 35, pos := "law.go:221", after := #[{ on := 0, ground := Ground.data }, { on := 1, ground := Ground.data }, { on := 4, ground := Ground.data }, { on := 4, ground := Ground.chain }], guard := none }) rfl (fun K hK => ?_) AllReadyH.nil
              go_simp
              (go_at_call 15; refine (H15.out _ _ _ hr5).mono ?_; rintro e w6 ⟨⟨v, rfl, hv⟩, hb⟩)
              go_wp2_with fail
              refine hK.out _ _ (kP2 _ _ hP5 hb) (fun hHeld => ?_)
              clear hK K
              try simp only [Act.put, List.setIfInBounds_toArray, List.set_cons_zero, List.set_cons_succ]
              refine' wpAnyH_take (i := 6) (oi := { dst := some 66, op := Op.move (Operand.tmp 72), type := 35, pos := "law.go:221", after := #[{ on := 5, ground := Ground.data }], guard := none }) (v := _) rfl (by kernel_rfl) (by kernel_rfl) (by kernel_rfl) (fun _ _ _ h => h) (Or.inl ⟨by kernel_rfl, ?hy19⟩) (by assumption) ?rest19
              case hy19 => (intro W hSW; (try dsimp only at hSW); go_simp; with_reducible rfl)
              try simp only [Act.put, List.setIfInBounds_toArray, List.set_cons_zero, List.set_cons_succ]
              refine' wpAnyH_take (i := 7) (oi := { dst := some 73, op := Op.extract (Operand.tmp 66) 0, type := 34, pos := "law.go:221", after := #[{ on := 6, ground := Ground.data }], guard := none }) (v := _) rfl (by kernel_rfl) (by kernel_rfl) (by kernel_rfl) (fun _ _ _ h => h) (Or.inl ⟨by kernel_rfl, ?hy20⟩) (by assumption) ?rest20
              case hy20 => (intro W hSW; (try dsimp only at hSW); go_simp; with_reducible rfl)
              try simp only [Act.put, List.setIfInBounds_toArray, List.set_cons_zero, List.set_cons_succ]
              refine' wpAnyH_take (i := 8) (oi := { dst := some 74, op := Op.extract (Operand.tmp 66) 1, type := 30, pos := "law.go:221", after := #[{ on := 6, ground := Ground.data }, { on := 9, ground := Ground.gcOnly Departure.lateStores }], guard := none }) (v := _) rfl (by kernel_rfl) (by kernel_rfl) (by kernel_rfl) (fun _ _ _ h => h) (Or.inl ⟨by kernel_rfl, ?hy21⟩) (by assumption) ?rest21
              case hy21 => (intro W hSW; (try dsimp only at hSW); go_simp; with_reducible rfl)
              try simp only [Act.put, List.setIfInBounds_toArray, List.set_cons_zero, List.set_cons_succ]
              refine wpAnyH_ready (rs := [9]) (by kernel_rfl) (by simp) ?_
              refine AllReadyH.cons (o := { dst := some 13, op := Op.assign (Operand.tmp 73), type := 34, pos := "law.go:221", after := #[{ on := 7, ground := Ground.data }, { on := 5, ground := Ground.chain }, { on := 0, ground := Ground.phase }, { on := 1, ground := Ground.phase }, { on := 2, ground := Ground.phase }, { on := 3, ground := Ground.phase }, { on := 4, ground := Ground.phase }, { on := 5, ground := Ground.phase }, { on := 6, ground := Ground.phase }, { on := 7, ground := Ground.phase }, { on := 8, ground := Ground.textOnly Departure.lateStores }], guard := none }) rfl (fun K hK => ?_) AllReadyH.nil
              go_simp
              refine hK.out _ _ (hHeld) (fun hHeld => ?_)
              clear hK K
              try simp only [Act.put, List.setIfInBounds_toArray, List.set_cons_zero, List.set_cons_succ]
              refine wpAnyH_ready (rs := [10]) (by kernel_rfl) (by simp) ?_
              refine AllReadyH.cons (o := { dst := some 14, op := Op.assign (Operand.tmp 74), type := 30, pos := "law.go:221", after := #[{ on := 8, ground := Ground.data }, { on := 9, ground := Ground.chain }, { on := 0, ground := Ground.phase }, { on := 1, ground := Ground.phase }, { on := 2, ground := Ground.phase }, { on := 3, ground := Ground.phase }, { on := 4, ground := Ground.phase }, { on := 5, ground := Ground.phase }, { on := 6, ground := Ground.phase }, { on := 7, ground := Ground.phase }, { on := 8, ground := Ground.phase }, { on := 9, ground := Ground.phase }], guard := none }) rfl (fun K hK => ?_) AllReadyH.nil
              go_simp
              refine hK.out _ _ (hHeld) (fun hHeld => ?_)
              clear hK K
              try simp only [Act.put, List.setIfInBounds_toArray, List.set_cons_zero, List.set_cons_succ]
              refine wpAnyH_done (by kernel_rfl) ?_ _
              go_wp2_with fail
              go_meet
              obtain ⟨_, A6, c6, rfl, hr6⟩ := hv
              exact ⟨rfl, hHeld, A6, c6, rfl, hr6⟩
            case rest =>
              obtain ⟨rfl, hP3, A6, c6, rfl, hI⟩ := hcut
              clear hP2
              obtain ⟨P3, kP3, hQ3, oI⟩ : ∃ P3 : World → Prop, Keep P3 ∧ P3 wc ∧ Hid (∀ X, P3 X → (P X ∧ Bk X gD 29 #[.int .i64 di, .string dp, .string dc, .string dx]) ∧ Rd X A6 (I.map (.int .i64))) := ⟨fun X => P2 X ∧ Rd X A6 (I.map (.int .i64)), keep_and kP2 (keep_rd _ _), ⟨hP3, hI⟩, fun X h => ⟨oP2.out X h.1, h.2⟩⟩
              have oP3 : Hid (∀ X, P3 X → P X ∧ Bk X gD 29 #[.int .i64 di, .string dp, .string dc, .string dx]) := fun X h => (oI.out X h).1
              clear kP2 oP2 hP3 hI
              have hP3 := hQ3
              go_upto_region 18 with (first
                | (refine wpList_load_row rfl 25 _ rfl w.heap.size rfl 25 oc.toArray (0, 0) _ (oP.out _ (oP3.out _ hP3).1).2.1 Tryz.underlying25 rfl Hi25'.out ?_)
                | (go_at_call 16; refine (H16'.out _).mono ?_; rintro e w7 ⟨rfl, hb7⟩))
              have hP7 : P3 w7 := kP3 _ _ hP3 hb7
              clear hb7 hP3
              have Hzz : Hid (∀ X, P3 X → X.cell? ⟨gD, 0, none⟩ = some (.int .i64 di) ∧ X.cell? ⟨gD, 1, none⟩ = some (.string dp) ∧ X.cell? ⟨gD, 2, none⟩ = some (.string dc) ∧ X.cell? ⟨gD, 3, none⟩ = some (.string dx)) := fun X h =>
                ⟨by rw [(oP3.out X h).2.cell]; rfl, by rw [(oP3.out X h).2.cell]; rfl, by rw [(oP3.out X h).2.cell]; rfl, by rw [(oP3.out X h).2.cell]; rfl⟩
              rcases Hway.out with ⟨h, hd, h1, hI0, h2⟩ | ⟨h, hr, hd, h1, hI0, h2⟩ | ⟨h, hr, s0, hs, hsl, hn, hd, h1, hI0, h2⟩ | ⟨h, hr, s0, hs, hsl, hn, h1, hI0, h2⟩
              · have hz : (checkLineup o == 0) = false := by simpa using h
                have hnz : (checkLineup o != 0) = true := by simpa using h
                obtain ⟨z0, z1, z2, z3⟩ := Hzz.out w7 hP7
                injection hd with d0 d1 d2 d3
                subst d0; subst d1; subst d2; subst d3; subst hI0
                subst h1; subst h2
                clear Hway h H16' H17
                have hq : ∀ W, (binOp .eql 29 (.agg #[.int .i64 0, .string .empty, .string .empty, .string .empty]) (.agg #[.int .i64 0, .string { data := #[] }, .string { data := #[] }, .string { data := #[] }])).run Tryz.prog W = .ok (.bool true) W := fun W => dev_run W 0 .empty .empty .empty 0 .empty .empty .empty
                generalize checkLineup o = E at hz hnz ⊢
                go_wp2
                go_ret
                exact ⟨rfl, (oP.out _ (oP3.out _ hP7).1).1⟩
              · have hz : (checkLineup o == 0) = true := by simpa using h
                have hnz : (refCameL o slot came != 0) = true := by simpa using hr
                injection hd with d0 d1 d2 d3
                subst d0; subst d1; subst d2; subst d3; subst hI0
                subst h1; subst h2
                clear Hway h hr H16'
                generalize refCameL o slot came = E at H17 hnz ⊢
                go_upto_region 20 with (first
                  | (refine wpList_load_row rfl 25 _ rfl w.heap.size rfl 25 oc.toArray (0, 0) _ (oP.out _ (oP3.out _ hP7).1).2.1 Tryz.underlying25 rfl Hi25'.out ?_)
                  | (go_at_call 17; refine (H17.out _ (oP.out _ (oP3.out _ hP7).1).2.2).mono ?_; rintro e w8 ⟨rfl, hb8⟩))
                have hP8 : P3 w8 := kP3 _ _ hP7 hb8
                obtain ⟨z0, z1, z2, z3⟩ := Hzz.out w8 hP8
                have hq : ∀ W, (binOp .eql 29 (.agg #[.int .i64 0, .string .empty, .string .empty, .string .empty]) (.agg #[.int .i64 0, .string { data := #[] }, .string { data := #[] }, .string { data := #[] }])).run Tryz.prog W = .ok (.bool true) W := fun W => dev_run W 0 .empty .empty .empty 0 .empty .empty .empty
                go_wp2
                go_ret
                exact ⟨rfl, (oP.out _ (oP3.out _ hP8).1).1⟩
              · have hz : (checkLineup o == 0) = true := by simpa using h
                have hnz : (refCameL o slot came != 0) = false := by simpa using hr
                have H18 : Hid (∀ W : World, Rd W C (came.map Value.string) → Calls Tryz.prog 18 #[.agg oc.toArray, .int .i64 slot, .slice C k c] W fun x w' => x = .returned (.tuple #[.agg #[.int .i64 0, .string { data := #[] }, .string { data := #[] }, .string { data := #[] }], .bool false]) ∧ Below W.heap.size W w') := fun W hW => by
                  have := refDev_any o Ho.out oc.toArray (by rw [← Hoc.out]) s0 hs came C k c Hn.out (by omega) W hW
                  rw [hn, ← hsl] at this
                  exact this
                have H20 : Hid (∀ W : World, Rd W C (came.map Value.string) → Calls Tryz.prog 20 #[.agg oc.toArray, .int .i64 slot, .slice C k c] W fun x w' => (∃ v, x = .returned v ∧ SlK 1 w' v I.length (I.map (.int .i64))) ∧ Below W.heap.size W w') := fun W hW => by
                  have := refImp_any o Ho.out oc.toArray (by rw [← Hoc.out]) s0 hs came C k c Hn.out (by omega) W hW
                  rw [← hsl, ← hI0] at this
                  exact this
                have Hle : Hid (I.length ≤ 4611686018427387904) := by
                  have := impL_len o came 0 (o.b.getD s0 .empty)
                  rw [← hI0, Hn.out] at this
                  show _ ≤ _
                  omega
                injection hd with d0 d1 d2 d3
                subst d0; subst d1; subst d2; subst d3
                subst h1; subst h2
                clear Hway h hr H16' hI0 hn hs hsl
                generalize refCameL o slot came = E at H17 hnz ⊢
                go_upto_region 20 with (first
                  | (refine wpList_load_row rfl 25 _ rfl w.heap.size rfl 25 oc.toArray (0, 0) _ (oP.out _ (oP3.out _ hP7).1).2.1 Tryz.underlying25 rfl Hi25'.out ?_)
                  | (go_at_call 17; refine (H17.out _ (oP.out _ (oP3.out _ hP7).1).2.2).mono ?_; rintro e w8 ⟨rfl, hb8⟩))
                have hP8 : P3 w8 := kP3 _ _ hP7 hb8
                go_upto_region 23 with (first
                  | (refine wpList_load_row rfl 25 _ rfl w.heap.size rfl 25 oc.toArray (0, 0) _ (oP.out _ (oP3.out _ hP8).1).2.1 Tryz.underlying25 rfl Hi25'.out ?_)
                  | (go_at_call 18; refine (H18.out _ (oP.out _ (oP3.out _ hP8).1).2.2).mono ?_; rintro e w9 ⟨rfl, hb9⟩))
                have hP9 : P3 w9 := kP3 _ _ hP8 hb9
                have hPX : P3 (w9.alloc (.cells #[.int .i64 0, .string { data := #[] }, .string { data := #[] }, .string { data := #[] }] 39)) := kP3 _ _ hP9 (bt_new w9 _)
                have hb39 := Bk.new w9 39 #[.int .i64 0, .string { data := #[] }, .string { data := #[] }, .string { data := #[] }]
                clear hP7 hP8 hP9 hb8 hb9
                generalize (w9.alloc (.cells #[.int .i64 0, .string { data := #[] }, .string { data := #[] }, .string { data := #[] }] 39)) = wx at hPX hb39 ⊢
                generalize w9.heap.size = gE at hb39 ⊢
                obtain ⟨z0, z1, z2, z3⟩ := Hzz.out wx hPX
                have hq : ∀ W, (binOp .neq 29 (.agg #[.int .i64 0, .string .empty, .string .empty, .string .empty]) (.agg #[.int .i64 0, .string { data := #[] }, .string { data := #[] }, .string { data := #[] }])).run Tryz.prog W = .ok (.bool false) W := fun W => dev_run' W 0 .empty .empty .empty 0 .empty .empty .empty
                go_upto_region 25 with fail
                clear z0 z1 z2 z3 hb39
                clear hq
                have hr25 := HS.out _ (oP3.out _ hPX).1
                go_wp2_with (first
                  | (refine wpList_load_cells_g 25 _ rfl w.heap.size 0 rfl oc (fun j hj => by rw [List.getElem?_eq_getElem hj]; exact hr25 j _ (List.getElem?_eq_getElem hj)) _ Tryz.underlying25 rfl Hi25.out rfl ?_)
                  | (go_at_call 20; refine (H20.out _ (oP.out _ (oP3.out _ hPX).1).2.2).mono ?_; rintro e wz ⟨⟨v, rfl, hv⟩, hbz⟩; obtain ⟨_, B7, c7, rfl, hr7⟩ := hv)
                  | (go_at_call 19; refine (sameInts_any I I A6 B7 I.length I.length c6 c7 wz rfl rfl Hle.out ((oI.out _ hPX).2.below hbz) hr7).mono ?_; rintro e wy ⟨rfl, q, rfl⟩))
                go_ret
                exact ⟨ret_bool (by simp), bt_drewN (bt_trans (oP.out _ (oP3.out _ hPX).1).1 hbz) q⟩
              · have hz : (checkLineup o == 0) = true := by simpa using h
                have hnz : (refCameL o slot came != 0) = false := by simpa using hr
                have H18 : Hid (∀ W : World, Rd W C (came.map Value.string) → Calls Tryz.prog 18 #[.agg oc.toArray, .int .i64 slot, .slice C k c] W fun x w' => x = .returned (.tuple #[.agg #[.int .i64 di, .string dp, .string dc, .string dx], .bool true]) ∧ Below W.heap.size W w') := fun W hW => by
                  have := refDev_any o Ho.out oc.toArray (by rw [← Hoc.out]) s0 hs came C k c Hn.out (by omega) W hW
                  rw [hn, ← hsl] at this
                  exact this
                have H20 : Hid (∀ W : World, Rd W C (came.map Value.string) → Calls Tryz.prog 20 #[.agg oc.toArray, .int .i64 slot, .slice C k c] W fun x w' => (∃ v, x = .returned v ∧ SlK 1 w' v I.length (I.map (.int .i64))) ∧ Below W.heap.size W w') := fun W hW => by
                  have := refImp_any o Ho.out oc.toArray (by rw [← Hoc.out]) s0 hs came C k c Hn.out (by omega) W hW
                  rw [← hsl, ← hI0] at this
                  exact this
                have Hle : Hid (I.length ≤ 4611686018427387904) := by
                  have := impL_len o came 0 (o.b.getD s0 .empty)
                  rw [← hI0, Hn.out] at this
                  show _ ≤ _
                  omega
                subst h1; subst h2
                clear Hway h hr H16' hI0 hn hs hsl
                generalize refCameL o slot came = E at H17 hnz ⊢
                go_upto_region 20 with (first
                  | (refine wpList_load_row rfl 25 _ rfl w.heap.size rfl 25 oc.toArray (0, 0) _ (oP.out _ (oP3.out _ hP7).1).2.1 Tryz.underlying25 rfl Hi25'.out ?_)
                  | (go_at_call 17; refine (H17.out _ (oP.out _ (oP3.out _ hP7).1).2.2).mono ?_; rintro e w8 ⟨rfl, hb8⟩))
                have hP8 : P3 w8 := kP3 _ _ hP7 hb8
                go_upto_region 23 with (first
                  | (refine wpList_load_row rfl 25 _ rfl w.heap.size rfl 25 oc.toArray (0, 0) _ (oP.out _ (oP3.out _ hP8).1).2.1 Tryz.underlying25 rfl Hi25'.out ?_)
                  | (go_at_call 18; refine (H18.out _ (oP.out _ (oP3.out _ hP8).1).2.2).mono ?_; rintro e w9 ⟨rfl, hb9⟩))
                have hP9 : P3 w9 := kP3 _ _ hP8 hb9
                have hPX : P3 (w9.alloc (.cells #[.int .i64 di, .string dp, .string dc, .string dx] 39)) := kP3 _ _ hP9 (bt_new w9 _)
                have hb39 := Bk.new w9 39 #[.int .i64 di, .string dp, .string dc, .string dx]
                clear hP7 hP8 hP9 hb8 hb9
                generalize (w9.alloc (.cells #[.int .i64 di, .string dp, .string dc, .string dx] 39)) = wx at hPX hb39 ⊢
                generalize w9.heap.size = gE at hb39 ⊢
                obtain ⟨z0, z1, z2, z3⟩ := Hzz.out wx hPX
                have y0 : wx.cell? ⟨gE, 0, none⟩ = some (.int .i64 di) := by rw [hb39.cell]; rfl
                have y1 : wx.cell? ⟨gE, 1, none⟩ = some (.string dp) := by rw [hb39.cell]; rfl
                have y2 : wx.cell? ⟨gE, 2, none⟩ = some (.string dc) := by rw [hb39.cell]; rfl
                have y3 : wx.cell? ⟨gE, 3, none⟩ = some (.string dx) := by rw [hb39.cell]; rfl
                have hq : ∀ W, (binOp .neq 39 (.agg #[.int .i64 di, .string dp, .string dc, .string dx]) (.agg #[.int .i64 di, .string dp, .string dc, .string dx])).run Tryz.prog W = .ok (.bool false) W := fun W => by
                  have := dev_run39 W di dp dc dx di dp dc dx
                  rw [decide_eq_true rfl] at this
                  exact this
                go_upto_region 25 with fail
                clear z0 z1 z2 z3 hb39
                clear hq y0 y1 y2 y3
                have hr25 := HS.out _ (oP3.out _ hPX).1
                go_wp2_with (first
                  | (refine wpList_load_cells_g 25 _ rfl w.heap.size 0 rfl oc (fun j hj => by rw [List.getElem?_eq_getElem hj]; exact hr25 j _ (List.getElem?_eq_getElem hj)) _ Tryz.underlying25 rfl Hi25.out rfl ?_)
                  | (go_at_call 20; refine (H20.out _ (oP.out _ (oP3.out _ hPX).1).2.2).mono ?_; rintro e wz ⟨⟨v, rfl, hv⟩, hbz⟩; obtain ⟨_, B7, c7, rfl, hr7⟩ := hv)
                  | (go_at_call 19; refine (sameInts_any I I A6 B7 I.length I.length c6 c7 wz rfl rfl Hle.out ((oI.out _ hPX).2.below hbz) hr7).mono ?_; rintro e wy ⟨rfl, q, rfl⟩))
                go_ret
                exact ⟨ret_bool (by simp), bt_drewN (bt_trans (oP.out _ (oP3.out _ hPX).1).1 hbz) q⟩
end Go.Proofs.YtmagppkclnebjaaGreatDoor
