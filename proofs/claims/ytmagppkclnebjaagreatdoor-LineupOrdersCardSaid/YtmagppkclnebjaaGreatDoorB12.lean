/- The reference: CheckCame, Deviate, Improper. -/
import Derived.Test.YtmagppkclnebjaaGreatDoorB11
import Derived.Test.YtmagppkclnebjaaGreatDoorA14
import Derived.Test.YtmagppkclnebjaaGreatDoorA18
set_option linter.unusedVariables false
set_option linter.unusedSimpArgs false
set_option linter.unusedSimpArgs false
namespace Go.Proofs.YtmagppkclnebjaaGreatDoor
open Go.RowKit
open L

def L.refCameL (X : LU) (slot : Int) (came : List Str) : Int :=
  if withinE slot 1 9 ≠ 0 then 3 else if 256 < came.length then 5 else if came.any (fun s => !decide (s ∈ X.b)) then 10 else 0
theorem checkCame_ref (X : LU) (slot : Int) (came : List Str) : checkCame X slot came = if checkLineup X ≠ 0 then checkLineup X else refCameL X slot came := by
  unfold checkCame checkCameE refCameL
  have ew : withinE slot 1 9 = 0 ∨ withinE slot 1 9 = 3 := by unfold withinE whenE; split <;> simp
  by_cases h0 : checkLineup X = 0
  · rcases ew with ew | ew
    · by_cases h256 : 256 < came.length
      · have : decide ((256 : Int) < (came.length : Int)) = true := decide_eq_true (by omega)
        simp only [firstE, h0, ew, this, whenE, h256, if_true, ne_eq, not_true, if_false]
        rfl
      · have : decide ((256 : Int) < (came.length : Int)) = false := decide_eq_false (by omega)
        simp only [firstE, h0, ew, this, whenE, h256, if_true, ne_eq, not_true, if_false, Bool.false_eq_true]
    · simp only [firstE, h0, ew, if_true, ne_eq, not_true, if_false]
      rfl
  · have e : firstE [checkLineup X, withinE slot 1 9, whenE (decide (256 < (came.length : Int))) 5] = checkLineup X := by
      rw [firstE, if_neg h0]
    rw [e, if_pos h0, if_pos h0]
theorem size25' (l : LU) (hl : l.ok) : (Tryz.prog.info? 25).map (·.size) = some l.cells.length := by
  rw [LU.cells_len l hl]; kernel_rfl
theorem idx_zero (l : LU) (s : Str) : ((idxF (fun y => decide (y = s)) l.b + 1) == 0) = !decide (s ∈ l.b) := by
  have h1 := idxF_nonneg (fun y => decide (y = s)) l.b
  rw [any_mem] at h1
  rw [← h1]
  have := (idxF_bd (fun y => decide (y = s)) l.b).1
  generalize idxF (fun y => decide (y = s)) l.b = r at this ⊢
  rw [Bool.eq_iff_iff]
  simp
  omega

set_option maxHeartbeats 2000000 in
theorem refCame_any (l : LU) (hl : l.ok) (A : Array Value) (hA : A = l.cells.toArray) (slot : Int) (came : List Str) (C : Option Addr) (n c : Nat) (hn : came.length = n) (hle : n ≤ 1000000) (w : World) (hc : Rd w C (came.map .string)) :
    Calls Tryz.prog 17 #[.agg A, .int .i64 slot, .slice C n c] w fun x w' => x = .returned (.int .i64 (refCameL l slot came)) ∧ Below w.heap.size w w' := by
  have hbk : Bk (w.alloc (.cells A 25)) w.heap.size 25 l.cells.toArray := by rw [← hA]; exact Bk.new _ _ _
  have Hl := Lib.hid hl; have Hn := Lib.hid hn; have Hc := Lib.hid hc
  have F0 : Hid (Below w.heap.size w (w.alloc (.cells A 25)) ∧ Bk (w.alloc (.cells A 25)) w.heap.size 25 l.cells.toArray) := ⟨bt_new w _, hbk⟩
  have Hi := Lib.hid (size25' l hl)
  clear hbk hA hl hn hc
  by_cases hw : withinE slot 1 9 = 0
  · have hz : (withinE slot 1 9 != 0) = false := by simpa using hw
    have Hw := Lib.hid hw; clear hw
    by_cases h256 : 256 < n
    · have h256' : (256 : Int) < (n : Int) := by omega
      have H256 := Lib.hid h256; clear h256
      go_enter Tryz.func17, Tryz.ntmps17
      go_wp2_with (go_at_call 39; refine (refRange_any _ _ _ _).mono ?_; rintro e w' ⟨rfl, rfl⟩)
      go_ret
      refine ⟨ret_int ?_, F0.out.1⟩
      unfold refCameL
      rw [if_neg (by rw [Hw.out]; simp), if_pos (by rw [Hn.out]; exact H256.out)]
    · have h256' : (n : Int) ≤ 256 := by omega
      have H256 := Lib.hid h256; clear h256
      have hd256 : decide ((256 : Int) < (n : Int)) = false := decide_eq_false (by omega)
      go_enter Tryz.func17, Tryz.ntmps17
      go_upto_region 1 with fail
      generalize (w.alloc (.cells A 25)) = W0 at F0 ⊢
      go_upto_region 6 with (go_at_call 39; refine (refRange_any _ _ _ _).mono ?_; rintro e w' ⟨rfl, rfl⟩)
      clear hd256
      go_loopw [7] (fun i wr => ∃ k : Nat, k ≤ n ∧ i = .int .i64 k ∧ Below w.heap.size w wr ∧ Bk wr w.heap.size 25 l.cells.toArray ∧ ∀ j, j < k → came.getD j .empty ∈ l.b) (fun i _ => n - (intOf i).toNat)
      case atStart => exact ⟨0, by omega, rfl, F0.out.1, F0.out.2, fun j hj => by omega⟩
      case round =>
        clear F0
        obtain ⟨k, hk, rfl, hb, hbk, hin⟩ := hrel
        have F := Lib.hid (show Below w.heap.size w wr ∧ Bk wr w.heap.size 25 l.cells.toArray from ⟨hb, hbk⟩)
        have Hin := Lib.hid hin
        clear hb hbk hin
        by_cases hkn : k < n
        · obtain ⟨b, off, rfl, hc1⟩ := Hc.out.str (k := k) (by rw [Hn.out]; exact hkn)
          have hb0 : b < w.heap.size := World.block_lt_of_cell? w ⟨b, off + k, none⟩ hc1
          have d1 : (wr.drew).cell? ⟨b, off + k, none⟩ = some (.string (came.getD k .empty)) := (F.out.1.cell (p := ⟨b, off + k, none⟩) hb0).trans hc1
          have r0 : (wr.drew).rangeAt w.heap.size 0 l.cells := LU.bkRange F.out.2
          generalize hs : came.getD k .empty = s at d1
          have Hs := Lib.hid hs; clear hs hc1
          have q0 : (0 : Int) ≤ (k : Int) := by omega
          have q1 : (k : Int) < (n : Int) := by omega
          have hiz := idx_zero l s
          have Hsl : Hid (∀ W, Calls Tryz.prog 33 #[.agg l.cells.toArray, .string s] W fun x w' => x = .returned (.int .i64 (idxF (fun y => decide (y = s)) l.b + 1)) ∧ Below W.heap.size W w') := fun W => refSlot_any l Hl.out _ rfl s W
          generalize idxF (fun y => decide (y = s)) l.b + 1 = r at hiz Hsl
          by_cases hm : s ∈ l.b
          · rw [decide_eq_true hm] at hiz
            have hr0 : (r == 0) = false := hiz
            have Hm := Lib.hid hm
            clear hiz hm
            go_upto_region 8 with fail
            have hbw0 := F.out.1.size
            have hlw : w.heap.size < wr.heap.size := F.out.2.lt
            refine wp_region_held_drew (S := fun W => W.rangeAt w.heap.size 0 l.cells ∧ W.cell? ⟨b, off + k, none⟩ = some (.string s)) (by kernel_rfl) (⟨r0, d1⟩) (fun hHeld => ?_)
            refine' wpAnyH_take (i := 0) (oi := { dst := some 20, op := Op.load 25 (Operand.tmp 3), type := 25, pos := "ref.go:324", after := #[], guard := none }) (v := _) rfl (by kernel_rfl) (by kernel_rfl) (by kernel_rfl) (fun _ _ _ h => h) (yieldsIf_load_mid (by kernel_rfl) _ _ rfl _ _ rfl (l.cells) _ (fun W h => h.1) Tryz.underlying25 rfl (Hi.out)) (by assumption) ?rest1
            try simp only [Act.put, List.setIfInBounds_toArray, List.set_cons_zero, List.set_cons_succ]
            refine' wpAnyH_take (i := 1) (oi := { dst := some 21, op := Op.move (Operand.tmp 2), type := 26, pos := "ref.go:324", after := #[], guard := none }) (v := _) rfl (by kernel_rfl) (by kernel_rfl) (by kernel_rfl) (fun _ _ _ h => h) (Or.inl ⟨by kernel_rfl, ?hy2⟩) (by assumption) ?rest2
            case hy2 => (intro W hSW; (try dsimp only at hSW); go_simp; with_reducible rfl)
            try simp only [Act.put, List.setIfInBounds_toArray, List.set_cons_zero, List.set_cons_succ]
            refine' wpAnyH_take (i := 2) (oi := { dst := some 22, op := Op.move (Operand.tmp 7), type := 3, pos := "ref.go:324", after := #[], guard := none }) (v := _) rfl (by kernel_rfl) (by kernel_rfl) (by kernel_rfl) (fun _ _ _ h => h) (Or.inl ⟨by kernel_rfl, ?hy3⟩) (by assumption) ?rest3
            case hy3 => (intro W hSW; (try dsimp only at hSW); go_simp; with_reducible rfl)
            try simp only [Act.put, List.setIfInBounds_toArray, List.set_cons_zero, List.set_cons_succ]
            refine' wpAnyH_take (i := 3) (oi := { dst := some 23, op := Op.indexAddr 26 (Operand.tmp 21) (Operand.tmp 22), type := 0, pos := "ref.go:324", after := #[{ on := 1, ground := Ground.data }, { on := 2, ground := Ground.data }], guard := none }) (v := _) rfl (by kernel_rfl) (by kernel_rfl) (by kernel_rfl) (fun _ _ _ h => h) (Or.inl ⟨by kernel_rfl, ?hy4⟩) (by assumption) ?rest4
            case hy4 => (intro W hSW; (try dsimp only at hSW); go_simp; with_reducible rfl)
            try simp only [Act.put, List.setIfInBounds_toArray, List.set_cons_zero, List.set_cons_succ]
            refine' wpAnyH_take (i := 4) (oi := { dst := some 24, op := Op.load 9 (Operand.tmp 23), type := 9, pos := "ref.go:324", after := #[{ on := 3, ground := Ground.data }], guard := none }) (v := _) rfl (by kernel_rfl) (by kernel_rfl) (by kernel_rfl) (fun _ _ _ h => h) (Or.inl ⟨by kernel_rfl, ?hy5⟩) (by assumption) ?rest5
            case hy5 => (intro W hSW; (try dsimp only at hSW); go_simp; with_reducible rfl)
            try simp only [Act.put, List.setIfInBounds_toArray, List.set_cons_zero, List.set_cons_succ]
            refine wpAnyH_ready (rs := [5]) (by kernel_rfl) (by simp) ?_
            refine AllReadyH.cons (o := { dst := some 25, op := Op.call { callee := Callee.value (Operand.func 33), args := #[Operand.tmp 20, Operand.tmp 24], argTypes := #[25, 9] }, type := 3, pos := "ref.go:324", after := #[{ on := 0, ground := Ground.data }, { on := 4, ground := Ground.data }], guard := none }) rfl (fun K hK => ?_) AllReadyH.nil
            go_simp
            (go_at_call 33; refine (Hsl.out _).mono ?_; rintro e w3 ⟨rfl, hb3⟩)
            go_wp2_with fail
            refine hK.out _ _ (⟨rangeAt_below hHeld.1 hb3 hlw, (hb3.cell (p := ⟨b, off + k, none⟩) (by show b < wr.heap.size; omega)).trans hHeld.2⟩) (fun hHeld => ?_)
            clear hK K
            try simp only [Act.put, List.setIfInBounds_toArray, List.set_cons_zero, List.set_cons_succ]
            refine' wpAnyH_take (i := 6) (oi := { dst := some 26, op := Op.binOp BinOp.eql 3 (Operand.tmp 25) (Operand.const (Value.int IntKind.i64 0)) 3, type := 4, pos := "ref.go:324", after := #[{ on := 5, ground := Ground.data }], guard := none }) (v := _) rfl (by kernel_rfl) (by kernel_rfl) (by kernel_rfl) (fun _ _ _ h => h) (Or.inl ⟨by kernel_rfl, ?hy6⟩) (by assumption) ?rest6
            case hy6 => (intro W hSW; (try dsimp only at hSW); go_simp; with_reducible rfl)
            try simp only [Act.put, List.setIfInBounds_toArray, List.set_cons_zero, List.set_cons_succ]
            refine wpAnyH_done (by kernel_rfl) ?_ _
            clear hHeld r0 d1
            have F3 : Hid (Below w.heap.size w w3 ∧ Bk w3 w.heap.size 25 l.cells.toArray) := ⟨bt_trans (bt_drew F.out.1) hb3, F.out.2.drew.below hb3 F.out.2.lt⟩
            clear hb3 hbw0
            go_wp2
            go_roundw
            case rel =>
              refine ⟨k + 1, by omega, by go_num, F3.out.1, F3.out.2, fun j hj => ?_⟩
              rcases Nat.lt_succ_iff_lt_or_eq.1 hj with h1 | rfl
              · exact Hin.out j h1
              · rw [Hs.out]; exact Hm.out
            case measure => simp [intOf]; omega
          · rw [decide_eq_false hm] at hiz
            have hr0 : (r == 0) = true := hiz
            have Hm := Lib.hid hm
            clear hiz hm
            go_upto_region 8 with fail
            have hbw0 := F.out.1.size
            have hlw : w.heap.size < wr.heap.size := F.out.2.lt
            refine wp_region_held_drew (S := fun W => W.rangeAt w.heap.size 0 l.cells ∧ W.cell? ⟨b, off + k, none⟩ = some (.string s)) (by kernel_rfl) (⟨r0, d1⟩) (fun hHeld => ?_)
            refine' wpAnyH_take (i := 0) (oi := { dst := some 20, op := Op.load 25 (Operand.tmp 3), type := 25, pos := "ref.go:324", after := #[], guard := none }) (v := _) rfl (by kernel_rfl) (by kernel_rfl) (by kernel_rfl) (fun _ _ _ h => h) (yieldsIf_load_mid (by kernel_rfl) _ _ rfl _ _ rfl (l.cells) _ (fun W h => h.1) Tryz.underlying25 rfl (Hi.out)) (by assumption) ?rest7
            try simp only [Act.put, List.setIfInBounds_toArray, List.set_cons_zero, List.set_cons_succ]
            refine' wpAnyH_take (i := 1) (oi := { dst := some 21, op := Op.move (Operand.tmp 2), type := 26, pos := "ref.go:324", after := #[], guard := none }) (v := _) rfl (by kernel_rfl) (by kernel_rfl) (by kernel_rfl) (fun _ _ _ h => h) (Or.inl ⟨by kernel_rfl, ?hy8⟩) (by assumption) ?rest8
            case hy8 => (intro W hSW; (try dsimp only at hSW); go_simp; with_reducible rfl)
            try simp only [Act.put, List.setIfInBounds_toArray, List.set_cons_zero, List.set_cons_succ]
            refine' wpAnyH_take (i := 2) (oi := { dst := some 22, op := Op.move (Operand.tmp 7), type := 3, pos := "ref.go:324", after := #[], guard := none }) (v := _) rfl (by kernel_rfl) (by kernel_rfl) (by kernel_rfl) (fun _ _ _ h => h) (Or.inl ⟨by kernel_rfl, ?hy9⟩) (by assumption) ?rest9
            case hy9 => (intro W hSW; (try dsimp only at hSW); go_simp; with_reducible rfl)
            try simp only [Act.put, List.setIfInBounds_toArray, List.set_cons_zero, List.set_cons_succ]
            refine' wpAnyH_take (i := 3) (oi := { dst := some 23, op := Op.indexAddr 26 (Operand.tmp 21) (Operand.tmp 22), type := 0, pos := "ref.go:324", after := #[{ on := 1, ground := Ground.data }, { on := 2, ground := Ground.data }], guard := none }) (v := _) rfl (by kernel_rfl) (by kernel_rfl) (by kernel_rfl) (fun _ _ _ h => h) (Or.inl ⟨by kernel_rfl, ?hy10⟩) (by assumption) ?rest10
            case hy10 => (intro W hSW; (try dsimp only at hSW); go_simp; with_reducible rfl)
            try simp only [Act.put, List.setIfInBounds_toArray, List.set_cons_zero, List.set_cons_succ]
            refine' wpAnyH_take (i := 4) (oi := { dst := some 24, op := Op.load 9 (Operand.tmp 23), type := 9, pos := "ref.go:324", after := #[{ on := 3, ground := Ground.data }], guard := none }) (v := _) rfl (by kernel_rfl) (by kernel_rfl) (by kernel_rfl) (fun _ _ _ h => h) (Or.inl ⟨by kernel_rfl, ?hy11⟩) (by assumption) ?rest11
            case hy11 => (intro W hSW; (try dsimp only at hSW); go_simp; with_reducible rfl)
            try simp only [Act.put, List.setIfInBounds_toArray, List.set_cons_zero, List.set_cons_succ]
            refine wpAnyH_ready (rs := [5]) (by kernel_rfl) (by simp) ?_
            refine AllReadyH.cons (o := { dst := some 25, op := Op.call { callee := Callee.value (Operand.func 33), args := #[Operand.tmp 20, Operand.tmp 24], argTypes := #[25, 9] }, type := 3, pos := "ref.go:324", after := #[{ on := 0, ground := Ground.data }, { on := 4, ground := Ground.data }], guard := none }) rfl (fun K hK => ?_) AllReadyH.nil
            go_simp
            (go_at_call 33; refine (Hsl.out _).mono ?_; rintro e w3 ⟨rfl, hb3⟩)
            go_wp2_with fail
            refine hK.out _ _ (⟨rangeAt_below hHeld.1 hb3 hlw, (hb3.cell (p := ⟨b, off + k, none⟩) (by show b < wr.heap.size; omega)).trans hHeld.2⟩) (fun hHeld => ?_)
            clear hK K
            try simp only [Act.put, List.setIfInBounds_toArray, List.set_cons_zero, List.set_cons_succ]
            refine' wpAnyH_take (i := 6) (oi := { dst := some 26, op := Op.binOp BinOp.eql 3 (Operand.tmp 25) (Operand.const (Value.int IntKind.i64 0)) 3, type := 4, pos := "ref.go:324", after := #[{ on := 5, ground := Ground.data }], guard := none }) (v := _) rfl (by kernel_rfl) (by kernel_rfl) (by kernel_rfl) (fun _ _ _ h => h) (Or.inl ⟨by kernel_rfl, ?hy12⟩) (by assumption) ?rest12
            case hy12 => (intro W hSW; (try dsimp only at hSW); go_simp; with_reducible rfl)
            try simp only [Act.put, List.setIfInBounds_toArray, List.set_cons_zero, List.set_cons_succ]
            refine wpAnyH_done (by kernel_rfl) ?_ _
            clear hHeld r0 d1
            have F3 : Hid (Below w.heap.size w w3) := bt_trans (bt_drew F.out.1) hb3
            clear hb3 hbw0
            go_wp2
            go_ret
            refine ⟨ret_int ?_, F3.out⟩
            unfold refCameL
            rw [if_neg (by rw [Hw.out]; simp), if_neg (by rw [Hn.out]; exact H256.out), if_pos]
            rw [List.any_eq_true]
            have hkl : k < came.length := by rw [Hn.out]; exact hkn
            refine ⟨s, ?_, by simpa using Hm.out⟩
            rw [← Hs.out]; simp [List.getD, List.getElem?_eq_getElem hkl]
        · obtain rfl : k = n := by omega
          go_wp2
          go_ret
          refine ⟨ret_int ?_, F.out.1⟩
          unfold refCameL
          rw [if_neg (by rw [Hw.out]; simp), if_neg (by rw [Hn.out]; exact H256.out), if_neg]
          rw [List.any_eq_true]
          rintro ⟨x, hx, hxn⟩
          obtain ⟨j, hj, rfl⟩ := List.getElem_of_mem hx
          have := Hin.out j (by rw [← Hn.out]; exact hj)
          simp [List.getD, List.getElem?_eq_getElem hj] at this
          simp [this] at hxn
  · have hz : (withinE slot 1 9 != 0) = true := by simpa using hw
    have Hw := Lib.hid hw; clear hw
    go_enter Tryz.func17, Tryz.ntmps17
    go_wp2_with (go_at_call 39; refine (refRange_any _ _ _ _).mono ?_; rintro e w' ⟨rfl, rfl⟩)
    go_ret
    refine ⟨ret_int ?_, F0.out.1⟩
    unfold refCameL
    rw [if_pos Hw.out]
end Go.Proofs.YtmagppkclnebjaaGreatDoor
