/- The reference: Improper. -/
import Derived.Test.YtmagppkclnebjaaGreatDoorB13
import Derived.Test.YtmagppkclnebjaaGreatDoorB6
set_option linter.unusedVariables false
set_option linter.unusedSimpArgs false
set_option linter.unusedSimpArgs false
namespace Go.Proofs.YtmagppkclnebjaaGreatDoor
open Go.RowKit
open L

theorem impL_at (X : LU) (k : Nat) (p : Str) (came : List Str) (hk : k < came.length) : impL X k p (came.drop k) = (if came.getD k .empty ≠ p then [(k : Int)] else []) ++ impL X (k + 1) (X.b.getD (behindOf X (came.getD k .empty)) .empty) (came.drop (k + 1)) := by
  rw [List.drop_eq_getElem_cons hk, impL]
  have : came.getD k .empty = came[k] := by simp [List.getD, List.getElem?_eq_getElem hk]
  rw [this]
theorem behind_facts (X : LU) (hX : X.ok) (s : Str) : ∃ f : Nat, f < 9 ∧ behindOf X s = f ∧ (idxF (fun y => decide (y = s)) X.b + 1).tmod 9 = (f : Int) ∧ 0 ≤ idxF (fun y => decide (y = s)) X.b + 1 ∧ idxF (fun y => decide (y = s)) X.b + 1 ≤ 9 := by
  have h := idxF_bd (fun y => decide (y = s)) X.b
  rw [hX.1] at h
  refine ⟨behindOf X s, ?_, rfl, ?_, by omega, by omega⟩
  · unfold behindOf; exact Nat.mod_lt _ (by omega)
  · unfold behindOf
    rw [Int.tmod_eq_emod_of_nonneg (by omega)]
    omega

set_option maxHeartbeats 2000000 in
set_option maxRecDepth 100000 in
theorem refImp_any (l : LU) (hl : l.ok) (A : Array Value) (hA : A = l.cells.toArray) (s0 : Nat) (hs0 : s0 < 9) (came : List Str) (C : Option Addr) (n c : Nat) (hn : came.length = n) (hle : n ≤ 1000000) (w : World) (hc : Rd w C (came.map .string)) :
    Calls Tryz.prog 20 #[.agg A, .int .i64 ((s0 : Int) + 1), .slice C n c] w fun x w' => (∃ v, x = .returned v ∧ SlK 1 w' v (impL l 0 (l.b.getD s0 .empty) came).length ((impL l 0 (l.b.getD s0 .empty) came).map (.int .i64))) ∧ Below w.heap.size w w' := by
  obtain ⟨i0, hi, hz0, hz1, hz2⟩ := info_parts infoI
  have Hl := Lib.hid hl; have Hn := Lib.hid hn; have Hc := Lib.hid hc
  have F0 : Hid (Below w.heap.size w (w.alloc (.cells A 25)) ∧ Bk (w.alloc (.cells A 25)) w.heap.size 25 l.cells.toArray) := ⟨bt_new w _, by rw [← hA]; exact Bk.new _ _ _⟩
  have Hi := Lib.hid (size25' l hl)
  clear hA hl hn hc
  generalize hI : impL l 0 (l.b.getD s0 .empty) came = I
  have HI := Lib.hid hI; clear hI
  go_enter Tryz.func20, Tryz.ntmps20
  go_upto_region 3 with fail
  generalize (w.alloc (.cells A 25)) = W0 at F0 ⊢
  go_loopw [1, 7, 8] (fun fv v i wr => ∃ (k f : Nat) (out : List Int), k ≤ n ∧ i = .int .i64 k ∧ fv = .int .i64 ((f : Int) + 1) ∧ f < 9 ∧ Below w.heap.size w wr ∧ Bk wr w.heap.size 25 l.cells.toArray ∧ wr.ownsRow (w.heap.size + 1) 3 1 v out.length (out.map (.int .i64)) ∧ I = out ++ impL l k (l.b.getD f .empty) (came.drop k) ∧ out.length ≤ k) (fun _ _ i _ => n - (intOf i).toNat)
  case atStart => exact ⟨0, s0, [], by omega, rfl, rfl, hs0, F0.out.1, F0.out.2, World.ownsRow_nil _ _ _ _, HI.out.symm, Nat.le_refl _⟩
  case round =>
    clear F0
    obtain ⟨k, f, out, hk, rfl, rfl, hf9, hb, hbk, hown, hI2, hol⟩ := hrel
    have F := Lib.hid (show Below w.heap.size w wr ∧ Bk wr w.heap.size 25 l.cells.toArray ∧ wr.ownsRow (w.heap.size + 1) 3 1 u7 out.length (out.map (.int .i64)) from ⟨hb, hbk, hown⟩)
    have HI2 := Lib.hid hI2
    clear hb hbk hown hI2
    by_cases hkn : k < n
    · obtain ⟨b, off, rfl, hc1⟩ := Hc.out.str (k := k) (by rw [Hn.out]; exact hkn)
      have hb0 : b < w.heap.size := World.block_lt_of_cell? w ⟨b, off + k, none⟩ hc1
      have hat := impL_at l k (l.b.getD f .empty) came (by rw [Hn.out]; exact hkn)
      have D1 : Hid (∀ W, Below w.heap.size w W → W.cell? ⟨b, off + k, none⟩ = some (.string (came.getD k .empty))) := fun W hW => (hW.cell (p := ⟨b, off + k, none⟩) hb0).trans hc1
      have D2 : Hid (∀ W, Bk W w.heap.size 25 l.cells.toArray → W.cell? ⟨w.heap.size, f, none⟩ = some (.string (l.b.getD f .empty))) := fun W hW => LU.cell_b Hl.out hW f hf9
      generalize hs : came.getD k .empty = s at hat D1
      generalize l.b.getD f .empty = p at hat D2 HI2
      obtain ⟨f', hf', hbe, hmod, hr0, hr9⟩ := behind_facts l Hl.out s
      rw [hbe] at hat
      have Hat := Lib.hid hat
      have Hsl : Hid (∀ W, Calls Tryz.prog 33 #[.agg l.cells.toArray, .string s] W fun x w' => x = .returned (.int .i64 (idxF (fun y => decide (y = s)) l.b + 1)) ∧ Below W.heap.size W w') := fun W => refSlot_any l Hl.out _ rfl s W
      generalize idxF (fun y => decide (y = s)) l.b + 1 = r at hmod hr0 hr9 Hsl
      have Hmod := Lib.hid hmod
      clear hat hs hc1 hbe hmod
      have q0 : (0 : Int) ≤ (k : Int) := by omega
      have q1 : (k : Int) < (n : Int) := by omega
      have q2 : (0 : Int) ≤ (f : Int) := by omega
      have q3 : (f : Int) < 9 := by omega
      have q4 : (0 : Int) ≤ (f' : Int) := by omega
      have q5 : (f' : Int) < 9 := by omega
      have y1 : wr.drew.cell? ⟨b, off + k, none⟩ = some (.string s) := D1.out _ (bt_drew F.out.1)
      have y2 : wr.drew.cell? ⟨w.heap.size, f, none⟩ = some (.string p) := D2.out _ F.out.2.1.drew
      by_cases hsp : s = p
      · have ht := tl_eq hsp
        have Hsp := Lib.hid hsp; clear hsp
        go_upto_region 5 with fail
        have hw1 : IntKind.i64.wrap (f : Int) = (f : Int) := IntWalk.i64_in _ (by omega)
        refine wp_region_held_drew (S := fun W => W.cell? ⟨b, off + k, none⟩ = some (.string s) ∧ W.cell? ⟨w.heap.size, f, none⟩ = some (.string p)) (by kernel_rfl) (⟨y1, y2⟩) (fun hHeld => ?_)
        refine' wpAnyH_take (i := 0) (oi := { dst := some 15, op := Op.move (Operand.tmp 2), type := 26, pos := "ref.go:346", after := #[], guard := none }) (v := _) rfl (by kernel_rfl) (by kernel_rfl) (by kernel_rfl) (fun _ _ _ h => h) (Or.inl ⟨by kernel_rfl, ?hy1⟩) (by assumption) ?rest1
        case hy1 => (intro W hSW; (try dsimp only at hSW); go_simp; with_reducible rfl)
        try simp only [Act.put, List.setIfInBounds_toArray, List.set_cons_zero, List.set_cons_succ]
        refine' wpAnyH_take (i := 1) (oi := { dst := some 16, op := Op.move (Operand.tmp 8), type := 3, pos := "ref.go:346", after := #[], guard := none }) (v := _) rfl (by kernel_rfl) (by kernel_rfl) (by kernel_rfl) (fun _ _ _ h => h) (Or.inl ⟨by kernel_rfl, ?hy2⟩) (by assumption) ?rest2
        case hy2 => (intro W hSW; (try dsimp only at hSW); go_simp; with_reducible rfl)
        try simp only [Act.put, List.setIfInBounds_toArray, List.set_cons_zero, List.set_cons_succ]
        refine' wpAnyH_take (i := 2) (oi := { dst := some 17, op := Op.indexAddr 26 (Operand.tmp 15) (Operand.tmp 16), type := 0, pos := "ref.go:346", after := #[{ on := 0, ground := Ground.data }, { on := 1, ground := Ground.data }], guard := none }) (v := _) rfl (by kernel_rfl) (by kernel_rfl) (by kernel_rfl) (fun _ _ _ h => h) (Or.inl ⟨by kernel_rfl, ?hy3⟩) (by assumption) ?rest3
        case hy3 => (intro W hSW; (try dsimp only at hSW); go_simp; with_reducible rfl)
        try simp only [Act.put, List.setIfInBounds_toArray, List.set_cons_zero, List.set_cons_succ]
        refine' wpAnyH_take (i := 3) (oi := { dst := some 18, op := Op.load 9 (Operand.tmp 17), type := 9, pos := "ref.go:346", after := #[{ on := 2, ground := Ground.data }], guard := none }) (v := _) rfl (by kernel_rfl) (by kernel_rfl) (by kernel_rfl) (fun _ _ _ h => h) (Or.inl ⟨by kernel_rfl, ?hy4⟩) (by assumption) ?rest4
        case hy4 => (intro W hSW; (try dsimp only at hSW); go_simp; with_reducible rfl)
        try simp only [Act.put, List.setIfInBounds_toArray, List.set_cons_zero, List.set_cons_succ]
        refine' wpAnyH_take (i := 4) (oi := { dst := some 19, op := Op.move (Operand.tmp 1), type := 3, pos := "ref.go:346", after := #[], guard := none }) (v := _) rfl (by kernel_rfl) (by kernel_rfl) (by kernel_rfl) (fun _ _ _ h => h) (Or.inl ⟨by kernel_rfl, ?hy5⟩) (by assumption) ?rest5
        case hy5 => (intro W hSW; (try dsimp only at hSW); go_simp; with_reducible rfl)
        try simp only [Act.put, List.setIfInBounds_toArray, List.set_cons_zero, List.set_cons_succ]
        refine' wpAnyH_take (i := 5) (oi := { dst := some 20, op := Op.binOp BinOp.sub 3 (Operand.tmp 19) (Operand.const (Value.int IntKind.i64 1)) 3, type := 3, pos := "ref.go:346", after := #[{ on := 4, ground := Ground.data }], guard := none }) (v := _) rfl (by kernel_rfl) (by kernel_rfl) (by kernel_rfl) (fun _ _ _ h => h) (Or.inl ⟨by kernel_rfl, ?hy6⟩) (by assumption) ?rest6
        case hy6 => (intro W hSW; (try dsimp only at hSW); go_simp; with_reducible rfl)
        try simp only [Act.put, List.setIfInBounds_toArray, List.set_cons_zero, List.set_cons_succ]
        refine' wpAnyH_take (i := 6) (oi := { dst := some 21, op := Op.fieldAddr 25 (Operand.tmp 3) 0, type := 0, pos := "ref.go:346", after := #[], guard := none }) (v := _) rfl (by kernel_rfl) (by kernel_rfl) (by kernel_rfl) (fun _ _ _ h => h) (Or.inl ⟨by kernel_rfl, ?hy7⟩) (by assumption) ?rest7
        case hy7 => (intro W hSW; (try dsimp only at hSW); go_simp; with_reducible rfl)
        try simp only [Act.put, List.setIfInBounds_toArray, List.set_cons_zero, List.set_cons_succ]
        refine' wpAnyH_take (i := 7) (oi := { dst := some 22, op := Op.indexAddr 22 (Operand.tmp 21) (Operand.tmp 20), type := 0, pos := "ref.go:346", after := #[{ on := 6, ground := Ground.data }, { on := 5, ground := Ground.data }], guard := none }) (v := _) rfl (by kernel_rfl) (by kernel_rfl) (by kernel_rfl) (fun _ _ _ h => h) (Or.inl ⟨by kernel_rfl, ?hy8⟩) (by assumption) ?rest8
        case hy8 => (intro W hSW; (try dsimp only at hSW); go_simp; with_reducible rfl)
        try simp only [Act.put, List.setIfInBounds_toArray, List.set_cons_zero, List.set_cons_succ]
        refine' wpAnyH_take (i := 8) (oi := { dst := some 23, op := Op.load 9 (Operand.tmp 22), type := 9, pos := "ref.go:346", after := #[{ on := 7, ground := Ground.data }], guard := none }) (v := _) rfl (by kernel_rfl) (by kernel_rfl) (by kernel_rfl) (fun _ _ _ h => h) (Or.inl ⟨by kernel_rfl, ?hy9⟩) (by assumption) ?rest9
        case hy9 => (intro W hSW; (try dsimp only at hSW); go_simp; with_reducible rfl)
        try simp only [Act.put, List.setIfInBounds_toArray, List.set_cons_zero, List.set_cons_succ]
        refine' wpAnyH_take (i := 9) (oi := { dst := some 24, op := Op.binOp BinOp.neq 9 (Operand.tmp 18) (Operand.tmp 23) 9, type := 4, pos := "ref.go:346", after := #[{ on := 3, ground := Ground.data }, { on := 8, ground := Ground.data }], guard := none }) (v := _) rfl (by kernel_rfl) (by kernel_rfl) (by kernel_rfl) (fun _ _ _ h => h) (Or.inl ⟨by kernel_rfl, ?hy10⟩) (by assumption) ?rest10
        case hy10 => (intro W hSW; (try dsimp only at hSW); go_simp; with_reducible rfl)
        try simp only [Act.put, List.setIfInBounds_toArray, List.set_cons_zero, List.set_cons_succ]
        refine wpAnyH_done (by kernel_rfl) ?_ _
        clear hHeld y1 y2 hw1 ht
        have F1 : Hid (Below w.heap.size w wr.drew ∧ Bk wr.drew w.heap.size 25 l.cells.toArray ∧ wr.drew.ownsRow (w.heap.size + 1) 3 1 u7 out.length (out.map (.int .i64))) := ⟨bt_drew F.out.1, F.out.2.1.drew, F.out.2.2⟩
        clear F
        generalize wr.drew = W1 at F1 ⊢
        go_upto_region 7 with fail
        have r0 : (W1.drew).rangeAt w.heap.size 0 l.cells := LU.bkRange F1.out.2.1.drew
        have y1 : W1.drew.cell? ⟨b, off + k, none⟩ = some (.string s) := D1.out _ (bt_drew F1.out.1)
        have hw9 := F1.out.1.size
        have hlw : w.heap.size < W1.heap.size := F1.out.2.1.lt
        have hmod := Hmod.out
        have hw2 : IntKind.i64.wrap ((f' : Int) + 1) = (f' : Int) + 1 := IntWalk.i64_in _ (by omega)
        refine wp_region_held_drew (S := fun W => W.rangeAt w.heap.size 0 l.cells ∧ W.cell? ⟨b, off + k, none⟩ = some (.string s)) (by kernel_rfl) (⟨r0, y1⟩) (fun hHeld => ?_)
        refine' wpAnyH_take (i := 0) (oi := { dst := some 29, op := Op.load 25 (Operand.tmp 3), type := 25, pos := "ref.go:349", after := #[], guard := none }) (v := _) rfl (by kernel_rfl) (by kernel_rfl) (by kernel_rfl) (fun _ _ _ h => h) (yieldsIf_load_mid (by kernel_rfl) _ _ rfl _ _ rfl (l.cells) _ (fun W h => h.1) Tryz.underlying25 rfl (Hi.out)) (by assumption) ?rest11
        try simp only [Act.put, List.setIfInBounds_toArray, List.set_cons_zero, List.set_cons_succ]
        refine' wpAnyH_take (i := 1) (oi := { dst := some 30, op := Op.move (Operand.tmp 2), type := 26, pos := "ref.go:349", after := #[], guard := none }) (v := _) rfl (by kernel_rfl) (by kernel_rfl) (by kernel_rfl) (fun _ _ _ h => h) (Or.inl ⟨by kernel_rfl, ?hy12⟩) (by assumption) ?rest12
        case hy12 => (intro W hSW; (try dsimp only at hSW); go_simp; with_reducible rfl)
        try simp only [Act.put, List.setIfInBounds_toArray, List.set_cons_zero, List.set_cons_succ]
        refine' wpAnyH_take (i := 2) (oi := { dst := some 31, op := Op.move (Operand.tmp 8), type := 3, pos := "ref.go:349", after := #[], guard := none }) (v := _) rfl (by kernel_rfl) (by kernel_rfl) (by kernel_rfl) (fun _ _ _ h => h) (Or.inl ⟨by kernel_rfl, ?hy13⟩) (by assumption) ?rest13
        case hy13 => (intro W hSW; (try dsimp only at hSW); go_simp; with_reducible rfl)
        try simp only [Act.put, List.setIfInBounds_toArray, List.set_cons_zero, List.set_cons_succ]
        refine' wpAnyH_take (i := 3) (oi := { dst := some 32, op := Op.indexAddr 26 (Operand.tmp 30) (Operand.tmp 31), type := 0, pos := "ref.go:349", after := #[{ on := 1, ground := Ground.data }, { on := 2, ground := Ground.data }], guard := none }) (v := _) rfl (by kernel_rfl) (by kernel_rfl) (by kernel_rfl) (fun _ _ _ h => h) (Or.inl ⟨by kernel_rfl, ?hy14⟩) (by assumption) ?rest14
        case hy14 => (intro W hSW; (try dsimp only at hSW); go_simp; with_reducible rfl)
        try simp only [Act.put, List.setIfInBounds_toArray, List.set_cons_zero, List.set_cons_succ]
        refine' wpAnyH_take (i := 4) (oi := { dst := some 33, op := Op.load 9 (Operand.tmp 32), type := 9, pos := "ref.go:349", after := #[{ on := 3, ground := Ground.data }], guard := none }) (v := _) rfl (by kernel_rfl) (by kernel_rfl) (by kernel_rfl) (fun _ _ _ h => h) (Or.inl ⟨by kernel_rfl, ?hy15⟩) (by assumption) ?rest15
        case hy15 => (intro W hSW; (try dsimp only at hSW); go_simp; with_reducible rfl)
        try simp only [Act.put, List.setIfInBounds_toArray, List.set_cons_zero, List.set_cons_succ]
        refine wpAnyH_ready (rs := [5]) (by kernel_rfl) (by simp) ?_
        refine AllReadyH.cons (o := { dst := some 34, op := Op.call { callee := Callee.value (Operand.func 33), args := #[Operand.tmp 29, Operand.tmp 33], argTypes := #[25, 9] }, type := 3, pos := "ref.go:349", after := #[{ on := 0, ground := Ground.data }, { on := 4, ground := Ground.data }], guard := none }) rfl (fun K hK => ?_) AllReadyH.nil
        go_simp
        (go_at_call 33; refine (Hsl.out _).mono ?_; rintro e w3 ⟨rfl, hb3⟩)
        go_wp2_with fail
        refine hK.out _ _ (⟨rangeAt_below hHeld.1 hb3 hlw, (hb3.cell (p := ⟨b, off + k, none⟩) (by show b < W1.heap.size; omega)).trans hHeld.2⟩) (fun hHeld => ?_)
        clear hK K
        try simp only [Act.put, List.setIfInBounds_toArray, List.set_cons_zero, List.set_cons_succ]
        refine' wpAnyH_take (i := 6) (oi := { dst := some 35, op := Op.binOp BinOp.rem 3 (Operand.tmp 34) (Operand.const (Value.int IntKind.i64 9)) 3, type := 3, pos := "ref.go:349", after := #[{ on := 5, ground := Ground.data }], guard := none }) (v := _) rfl (by kernel_rfl) (by kernel_rfl) (by kernel_rfl) (fun _ _ _ h => h) (Or.inl ⟨by kernel_rfl, ?hy16⟩) (by assumption) ?rest16
        case hy16 => (intro W hSW; (try dsimp only at hSW); go_simp; with_reducible rfl)
        try simp only [Act.put, List.setIfInBounds_toArray, List.set_cons_zero, List.set_cons_succ]
        refine' wpAnyH_take (i := 7) (oi := { dst := some 36, op := Op.binOp BinOp.add 3 (Operand.tmp 35) (Operand.const (Value.int IntKind.i64 1)) 3, type := 3, pos := "ref.go:349", after := #[{ on := 6, ground := Ground.data }], guard := none }) (v := _) rfl (by kernel_rfl) (by kernel_rfl) (by kernel_rfl) (fun _ _ _ h => h) (Or.inl ⟨by kernel_rfl, ?hy17⟩) (by assumption) ?rest17
        case hy17 => (intro W hSW; (try dsimp only at hSW); go_simp; with_reducible rfl)
        try simp only [Act.put, List.setIfInBounds_toArray, List.set_cons_zero, List.set_cons_succ]
        refine wpAnyH_ready (rs := [8]) (by kernel_rfl) (by simp) ?_
        refine AllReadyH.cons (o := { dst := some 1, op := Op.assign (Operand.tmp 36), type := 3, pos := "ref.go:349", after := #[{ on := 7, ground := Ground.data }, { on := 5, ground := Ground.chain }, { on := 0, ground := Ground.phase }, { on := 1, ground := Ground.phase }, { on := 2, ground := Ground.phase }, { on := 3, ground := Ground.phase }, { on := 4, ground := Ground.phase }, { on := 5, ground := Ground.phase }, { on := 6, ground := Ground.phase }, { on := 7, ground := Ground.phase }], guard := none }) rfl (fun K hK => ?_) AllReadyH.nil
        go_simp
        refine hK.out _ _ (hHeld) (fun hHeld => ?_)
        clear hK K
        try simp only [Act.put, List.setIfInBounds_toArray, List.set_cons_zero, List.set_cons_succ]
        refine wpAnyH_done (by kernel_rfl) ?_ _
        clear hHeld r0 y1 hw2 hmod
        have F3 : Hid (Below w.heap.size w w3 ∧ Bk w3 w.heap.size 25 l.cells.toArray ∧ w3.ownsRow (w.heap.size + 1) 3 1 u7 out.length (out.map (.int .i64))) := ⟨bt_trans (bt_drew F1.out.1) hb3, F1.out.2.1.drew.below hb3 F1.out.2.1.lt, own_below (show W1.drew.ownsRow _ _ _ _ _ _ from F1.out.2.2) hb3⟩
        clear hb3 hw9
        go_wp2
        go_roundw
        case rel =>
          refine ⟨k + 1, f', out, by omega, by go_num, by go_num, hf', F3.out.1, F3.out.2.1, F3.out.2.2, ?_, by omega⟩
          rw [HI2.out, Hat.out, if_neg (by rw [Hsp.out]; simp), List.nil_append]
        case measure => simp [intOf]; omega
      · have ht := tl_ne hsp
        have Hsp := Lib.hid hsp; clear hsp
        go_upto_region 5 with fail
        have hw1 : IntKind.i64.wrap (f : Int) = (f : Int) := IntWalk.i64_in _ (by omega)
        refine wp_region_held_drew (S := fun W => W.cell? ⟨b, off + k, none⟩ = some (.string s) ∧ W.cell? ⟨w.heap.size, f, none⟩ = some (.string p)) (by kernel_rfl) (⟨y1, y2⟩) (fun hHeld => ?_)
        refine' wpAnyH_take (i := 0) (oi := { dst := some 15, op := Op.move (Operand.tmp 2), type := 26, pos := "ref.go:346", after := #[], guard := none }) (v := _) rfl (by kernel_rfl) (by kernel_rfl) (by kernel_rfl) (fun _ _ _ h => h) (Or.inl ⟨by kernel_rfl, ?hy18⟩) (by assumption) ?rest18
        case hy18 => (intro W hSW; (try dsimp only at hSW); go_simp; with_reducible rfl)
        try simp only [Act.put, List.setIfInBounds_toArray, List.set_cons_zero, List.set_cons_succ]
        refine' wpAnyH_take (i := 1) (oi := { dst := some 16, op := Op.move (Operand.tmp 8), type := 3, pos := "ref.go:346", after := #[], guard := none }) (v := _) rfl (by kernel_rfl) (by kernel_rfl) (by kernel_rfl) (fun _ _ _ h => h) (Or.inl ⟨by kernel_rfl, ?hy19⟩) (by assumption) ?rest19
        case hy19 => (intro W hSW; (try dsimp only at hSW); go_simp; with_reducible rfl)
        try simp only [Act.put, List.setIfInBounds_toArray, List.set_cons_zero, List.set_cons_succ]
        refine' wpAnyH_take (i := 2) (oi := { dst := some 17, op := Op.indexAddr 26 (Operand.tmp 15) (Operand.tmp 16), type := 0, pos := "ref.go:346", after := #[{ on := 0, ground := Ground.data }, { on := 1, ground := Ground.data }], guard := none }) (v := _) rfl (by kernel_rfl) (by kernel_rfl) (by kernel_rfl) (fun _ _ _ h => h) (Or.inl ⟨by kernel_rfl, ?hy20⟩) (by assumption) ?rest20
        case hy20 => (intro W hSW; (try dsimp only at hSW); go_simp; with_reducible rfl)
        try simp only [Act.put, List.setIfInBounds_toArray, List.set_cons_zero, List.set_cons_succ]
        refine' wpAnyH_take (i := 3) (oi := { dst := some 18, op := Op.load 9 (Operand.tmp 17), type := 9, pos := "ref.go:346", after := #[{ on := 2, ground := Ground.data }], guard := none }) (v := _) rfl (by kernel_rfl) (by kernel_rfl) (by kernel_rfl) (fun _ _ _ h => h) (Or.inl ⟨by kernel_rfl, ?hy21⟩) (by assumption) ?rest21
        case hy21 => (intro W hSW; (try dsimp only at hSW); go_simp; with_reducible rfl)
        try simp only [Act.put, List.setIfInBounds_toArray, List.set_cons_zero, List.set_cons_succ]
        refine' wpAnyH_take (i := 4) (oi := { dst := some 19, op := Op.move (Operand.tmp 1), type := 3, pos := "ref.go:346", after := #[], guard := none }) (v := _) rfl (by kernel_rfl) (by kernel_rfl) (by kernel_rfl) (fun _ _ _ h => h) (Or.inl ⟨by kernel_rfl, ?hy22⟩) (by assumption) ?rest22
        case hy22 => (intro W hSW; (try dsimp only at hSW); go_simp; with_reducible rfl)
        try simp only [Act.put, List.setIfInBounds_toArray, List.set_cons_zero, List.set_cons_succ]
        refine' wpAnyH_take (i := 5) (oi := { dst := some 20, op := Op.binOp BinOp.sub 3 (Operand.tmp 19) (Operand.const (Value.int IntKind.i64 1)) 3, type := 3, pos := "ref.go:346", after := #[{ on := 4, ground := Ground.data }], guard := none }) (v := _) rfl (by kernel_rfl) (by kernel_rfl) (by kernel_rfl) (fun _ _ _ h => h) (Or.inl ⟨by kernel_rfl, ?hy23⟩) (by assumption) ?rest23
        case hy23 => (intro W hSW; (try dsimp only at hSW); go_simp; with_reducible rfl)
        try simp only [Act.put, List.setIfInBounds_toArray, List.set_cons_zero, List.set_cons_succ]
        refine' wpAnyH_take (i := 6) (oi := { dst := some 21, op := Op.fieldAddr 25 (Operand.tmp 3) 0, type := 0, pos := "ref.go:346", after := #[], guard := none }) (v := _) rfl (by kernel_rfl) (by kernel_rfl) (by kernel_rfl) (fun _ _ _ h => h) (Or.inl ⟨by kernel_rfl, ?hy24⟩) (by assumption) ?rest24
        case hy24 => (intro W hSW; (try dsimp only at hSW); go_simp; with_reducible rfl)
        try simp only [Act.put, List.setIfInBounds_toArray, List.set_cons_zero, List.set_cons_succ]
        refine' wpAnyH_take (i := 7) (oi := { dst := some 22, op := Op.indexAddr 22 (Operand.tmp 21) (Operand.tmp 20), type := 0, pos := "ref.go:346", after := #[{ on := 6, ground := Ground.data }, { on := 5, ground := Ground.data }], guard := none }) (v := _) rfl (by kernel_rfl) (by kernel_rfl) (by kernel_rfl) (fun _ _ _ h => h) (Or.inl ⟨by kernel_rfl, ?hy25⟩) (by assumption) ?rest25
        case hy25 => (intro W hSW; (try dsimp only at hSW); go_simp; with_reducible rfl)
        try simp only [Act.put, List.setIfInBounds_toArray, List.set_cons_zero, List.set_cons_succ]
        refine' wpAnyH_take (i := 8) (oi := { dst := some 23, op := Op.load 9 (Operand.tmp 22), type := 9, pos := "ref.go:346", after := #[{ on := 7, ground := Ground.data }], guard := none }) (v := _) rfl (by kernel_rfl) (by kernel_rfl) (by kernel_rfl) (fun _ _ _ h => h) (Or.inl ⟨by kernel_rfl, ?hy26⟩) (by assumption) ?rest26
        case hy26 => (intro W hSW; (try dsimp only at hSW); go_simp; with_reducible rfl)
        try simp only [Act.put, List.setIfInBounds_toArray, List.set_cons_zero, List.set_cons_succ]
        refine' wpAnyH_take (i := 9) (oi := { dst := some 24, op := Op.binOp BinOp.neq 9 (Operand.tmp 18) (Operand.tmp 23) 9, type := 4, pos := "ref.go:346", after := #[{ on := 3, ground := Ground.data }, { on := 8, ground := Ground.data }], guard := none }) (v := _) rfl (by kernel_rfl) (by kernel_rfl) (by kernel_rfl) (fun _ _ _ h => h) (Or.inl ⟨by kernel_rfl, ?hy27⟩) (by assumption) ?rest27
        case hy27 => (intro W hSW; (try dsimp only at hSW); go_simp; with_reducible rfl)
        try simp only [Act.put, List.setIfInBounds_toArray, List.set_cons_zero, List.set_cons_succ]
        refine wpAnyH_done (by kernel_rfl) ?_ _
        clear hHeld y1 y2 hw1 ht
        have F0' : Hid (Below w.heap.size w wr.drew ∧ Bk wr.drew w.heap.size 25 l.cells.toArray ∧ wr.drew.ownsRow (w.heap.size + 1) 3 1 u7 out.length (out.map (.int .i64))) := ⟨bt_drew F.out.1, F.out.2.1.drew, F.out.2.2⟩
        clear F
        generalize wr.drew = WA at F0' ⊢
        have hcs := new_cells WA #[.int .i64 k] 3
        have Hcs := Lib.hid hcs; clear hcs
        have hsz := F0'.out.2.1.lt
        go_upto_region 7 with (at_builtin; refine wpList_append_own _ rfl _ _ 34 rfl (w.heap.size + 1) 3 i0 (.int .i64 0) 1 8 Tryz.underlying34 hi hz0 hz1 hz2 rfl (by decide) _ _ _ rfl (F0'.out.2.2.alloc _) ⟨WA.heap.size, 0, none⟩ 1 1 (#[.int .i64 k] : Array Value).toList rfl rfl Hcs.out (by simp [Value.oneCell']) (by unfold maxLen; omega) (by omega) (by simp; omega) ?_; intro v' w5 hown' hgrow hnil)
        have F1 : Hid (Below w.heap.size w w5 ∧ Bk w5 w.heap.size 25 l.cells.toArray ∧ w5.ownsRow (w.heap.size + 1) 3 1 v' (out ++ [(k : Int)]).length ((out ++ [(k : Int)]).map (.int .i64))) := by
          refine ⟨(bt_alloc F0'.out.1 _).grown hgrow (by simp; omega) (fun q e => by have := (F0'.out.2.2.lt q e).1; omega), (hgrow.block _ (by simp; omega) (fun e => by have := (F0'.out.2.2.lt _ e.symm).1; omega)).trans (F0'.out.2.1.alloc _), by simpa using hown'⟩
        clear F0' Hcs hown' hgrow hnil hsz
        generalize w5 = W1 at F1 ⊢
        have r0 : (W1.drew).rangeAt w.heap.size 0 l.cells := LU.bkRange F1.out.2.1.drew
        have y1 : W1.drew.cell? ⟨b, off + k, none⟩ = some (.string s) := D1.out _ (bt_drew F1.out.1)
        have hw9 := F1.out.1.size
        have hlw : w.heap.size < W1.heap.size := F1.out.2.1.lt
        have hmod := Hmod.out
        have hw2 : IntKind.i64.wrap ((f' : Int) + 1) = (f' : Int) + 1 := IntWalk.i64_in _ (by omega)
        refine wp_region_held_drew (S := fun W => W.rangeAt w.heap.size 0 l.cells ∧ W.cell? ⟨b, off + k, none⟩ = some (.string s)) (by kernel_rfl) (⟨r0, y1⟩) (fun hHeld => ?_)
        refine' wpAnyH_take (i := 0) (oi := { dst := some 29, op := Op.load 25 (Operand.tmp 3), type := 25, pos := "ref.go:349", after := #[], guard := none }) (v := _) rfl (by kernel_rfl) (by kernel_rfl) (by kernel_rfl) (fun _ _ _ h => h) (yieldsIf_load_mid (by kernel_rfl) _ _ rfl _ _ rfl (l.cells) _ (fun W h => h.1) Tryz.underlying25 rfl (Hi.out)) (by assumption) ?rest28
        try simp only [Act.put, List.setIfInBounds_toArray, List.set_cons_zero, List.set_cons_succ]
        refine' wpAnyH_take (i := 1) (oi := { dst := some 30, op := Op.move (Operand.tmp 2), type := 26, pos := "ref.go:349", after := #[], guard := none }) (v := _) rfl (by kernel_rfl) (by kernel_rfl) (by kernel_rfl) (fun _ _ _ h => h) (Or.inl ⟨by kernel_rfl, ?hy29⟩) (by assumption) ?rest29
        case hy29 => (intro W hSW; (try dsimp only at hSW); go_simp; with_reducible rfl)
        try simp only [Act.put, List.setIfInBounds_toArray, List.set_cons_zero, List.set_cons_succ]
        refine' wpAnyH_take (i := 2) (oi := { dst := some 31, op := Op.move (Operand.tmp 8), type := 3, pos := "ref.go:349", after := #[], guard := none }) (v := _) rfl (by kernel_rfl) (by kernel_rfl) (by kernel_rfl) (fun _ _ _ h => h) (Or.inl ⟨by kernel_rfl, ?hy30⟩) (by assumption) ?rest30
        case hy30 => (intro W hSW; (try dsimp only at hSW); go_simp; with_reducible rfl)
        try simp only [Act.put, List.setIfInBounds_toArray, List.set_cons_zero, List.set_cons_succ]
        refine' wpAnyH_take (i := 3) (oi := { dst := some 32, op := Op.indexAddr 26 (Operand.tmp 30) (Operand.tmp 31), type := 0, pos := "ref.go:349", after := #[{ on := 1, ground := Ground.data }, { on := 2, ground := Ground.data }], guard := none }) (v := _) rfl (by kernel_rfl) (by kernel_rfl) (by kernel_rfl) (fun _ _ _ h => h) (Or.inl ⟨by kernel_rfl, ?hy31⟩) (by assumption) ?rest31
        case hy31 => (intro W hSW; (try dsimp only at hSW); go_simp; with_reducible rfl)
        try simp only [Act.put, List.setIfInBounds_toArray, List.set_cons_zero, List.set_cons_succ]
        refine' wpAnyH_take (i := 4) (oi := { dst := some 33, op := Op.load 9 (Operand.tmp 32), type := 9, pos := "ref.go:349", after := #[{ on := 3, ground := Ground.data }], guard := none }) (v := _) rfl (by kernel_rfl) (by kernel_rfl) (by kernel_rfl) (fun _ _ _ h => h) (Or.inl ⟨by kernel_rfl, ?hy32⟩) (by assumption) ?rest32
        case hy32 => (intro W hSW; (try dsimp only at hSW); go_simp; with_reducible rfl)
        try simp only [Act.put, List.setIfInBounds_toArray, List.set_cons_zero, List.set_cons_succ]
        refine wpAnyH_ready (rs := [5]) (by kernel_rfl) (by simp) ?_
        refine AllReadyH.cons (o := { dst := some 34, op := Op.call { callee := Callee.value (Operand.func 33), args := #[Operand.tmp 29, Operand.tmp 33], argTypes := #[25, 9] }, type := 3, pos := "ref.go:349", after := #[{ on := 0, ground := Ground.data }, { on := 4, ground := Ground.data }], guard := none }) rfl (fun K hK => ?_) AllReadyH.nil
        go_simp
        (go_at_call 33; refine (Hsl.out _).mono ?_; rintro e w3 ⟨rfl, hb3⟩)
        go_wp2_with fail
        refine hK.out _ _ (⟨rangeAt_below hHeld.1 hb3 hlw, (hb3.cell (p := ⟨b, off + k, none⟩) (by show b < W1.heap.size; omega)).trans hHeld.2⟩) (fun hHeld => ?_)
        clear hK K
        try simp only [Act.put, List.setIfInBounds_toArray, List.set_cons_zero, List.set_cons_succ]
        refine' wpAnyH_take (i := 6) (oi := { dst := some 35, op := Op.binOp BinOp.rem 3 (Operand.tmp 34) (Operand.const (Value.int IntKind.i64 9)) 3, type := 3, pos := "ref.go:349", after := #[{ on := 5, ground := Ground.data }], guard := none }) (v := _) rfl (by kernel_rfl) (by kernel_rfl) (by kernel_rfl) (fun _ _ _ h => h) (Or.inl ⟨by kernel_rfl, ?hy33⟩) (by assumption) ?rest33
        case hy33 => (intro W hSW; (try dsimp only at hSW); go_simp; with_reducible rfl)
        try simp only [Act.put, List.setIfInBounds_toArray, List.set_cons_zero, List.set_cons_succ]
        refine' wpAnyH_take (i := 7) (oi := { dst := some 36, op := Op.binOp BinOp.add 3 (Operand.tmp 35) (Operand.const (Value.int IntKind.i64 1)) 3, type := 3, pos := "ref.go:349", after := #[{ on := 6, ground := Ground.data }], guard := none }) (v := _) rfl (by kernel_rfl) (by kernel_rfl) (by kernel_rfl) (fun _ _ _ h => h) (Or.inl ⟨by kernel_rfl, ?hy34⟩) (by assumption) ?rest34
        case hy34 => (intro W hSW; (try dsimp only at hSW); go_simp; with_reducible rfl)
        try simp only [Act.put, List.setIfInBounds_toArray, List.set_cons_zero, List.set_cons_succ]
        refine wpAnyH_ready (rs := [8]) (by kernel_rfl) (by simp) ?_
        refine AllReadyH.cons (o := { dst := some 1, op := Op.assign (Operand.tmp 36), type := 3, pos := "ref.go:349", after := #[{ on := 7, ground := Ground.data }, { on := 5, ground := Ground.chain }, { on := 0, ground := Ground.phase }, { on := 1, ground := Ground.phase }, { on := 2, ground := Ground.phase }, { on := 3, ground := Ground.phase }, { on := 4, ground := Ground.phase }, { on := 5, ground := Ground.phase }, { on := 6, ground := Ground.phase }, { on := 7, ground := Ground.phase }], guard := none }) rfl (fun K hK => ?_) AllReadyH.nil
        go_simp
        refine hK.out _ _ (hHeld) (fun hHeld => ?_)
        clear hK K
        try simp only [Act.put, List.setIfInBounds_toArray, List.set_cons_zero, List.set_cons_succ]
        refine wpAnyH_done (by kernel_rfl) ?_ _
        clear hHeld r0 y1 hw2 hmod
        have F3 : Hid (Below w.heap.size w w3 ∧ Bk w3 w.heap.size 25 l.cells.toArray ∧ w3.ownsRow (w.heap.size + 1) 3 1 v' (out ++ [(k : Int)]).length ((out ++ [(k : Int)]).map (.int .i64))) := ⟨bt_trans (bt_drew F1.out.1) hb3, F1.out.2.1.drew.below hb3 F1.out.2.1.lt, own_below (show W1.drew.ownsRow _ _ _ _ _ _ from F1.out.2.2) hb3⟩
        clear hb3 hw9
        go_wp2
        go_roundw
        case rel =>
          refine ⟨k + 1, f', out ++ [(k : Int)], by omega, by go_num, by go_num, hf', F3.out.1, F3.out.2.1, F3.out.2.2, ?_, by simp; omega⟩
          rw [HI2.out, Hat.out, if_pos Hsp.out, List.append_assoc]
        case measure => simp [intOf]; omega
    · obtain rfl : k = n := by omega
      have hI3 : I = out := by rw [HI2.out, List.drop_of_length_le (by rw [Hn.out]; exact Nat.le_refl _), impL, List.append_nil]
      have HI3 := Lib.hid hI3; clear hI3
      go_wp2
      go_ret
      rw [HI3.out]
      exact ⟨⟨_, rfl, SlK.of_own F.out.2.2⟩, F.out.1⟩
end Go.Proofs.YtmagppkclnebjaaGreatDoor
