/- lineup.checkCame, Deviate, Improper: what comes up out of turn. -/
import Derived.Test.YtmagppkclnebjaaGreatDoorA9
import Derived.OwnWalk
import Derived.Maps.AppendAt
set_option linter.unusedVariables false
set_option linter.unusedSimpArgs false
set_option linter.unusedSimpArgs false
namespace Go.Proofs.YtmagppkclnebjaaGreatDoor
open Go.RowKit
open L

/-- the closure of checkCame -/
theorem cameHasNot_any (l : LU) (hl : l.ok) (g : Nat) (s : Str) (w : World) (h : Bk w g 33 l.cells.toArray) :
    Calls Tryz.prog 121 #[.string s, .pointer (some ⟨g, 0, none⟩)] w fun x w' => x = .returned (.bool (!decide (s ∈ l.b))) ∧ w = w' := by
  have hrd := Rd.lu_b (LU.bkCells h)
  have hsl : ∀ W, (Instr.sliceAt 22 (.pointer (some ⟨g, 0, none⟩)) none none none).run Tryz.prog W = .ok (.slice (some ⟨g, 0, none⟩) 9 9) W := fun W =>
    run_slice_arr_all W 22 9 9 _ Tryz.underlying22 size9
  have hll : Hid (l.b.length = 9) := hl.1
  have Hrd := Lib.hid hrd; clear hrd h hl
  go_enter Tryz.func121, Tryz.ntmps121
  go_wp2_with (first
    | (go_at_call 93; refine (containsS_any l.b _ _ _ _ _ hll.out (by omega) Hrd.out).mono ?_; rintro e w2 ⟨rfl, rfl⟩))
  go_ret
  exact ⟨rfl, rfl⟩

set_option maxHeartbeats 400000 in
theorem indexFuncC_any (p : Str → Bool) (lb : Array Value) (l : List Str) (A : Option Addr) (n c : Nat) (w : World) (hn : l.length = n) (hle : n ≤ 4611686018427387904) (h : Rd w A (l.map .string))
    (hp : ∀ s, Calls Tryz.prog 121 (#[.string s] ++ lb) w fun x w' => x = .returned (.bool (p s)) ∧ w = w') :
    Calls Tryz.prog 139 #[.slice A n c, .func (.func 121) #[] lb] w fun x w' => x = .returned (.int .i64 (idxF p l)) ∧ w = w' := by
  have Hn := Lib.hid hn; clear hn
  have H := Lib.hid h; clear h
  have Hp := Lib.hid hp; clear hp
  go_enter Tryz.func139, Tryz.ntmps139
  go_wp2
  go_loop [8] (fun i => ∃ k : Nat, k ≤ n ∧ i = .int .i64 k ∧ ∀ j, j < k → p (l.getD j .empty) = false) (fun i => n - (intOf i).toNat)
  case atStart => exact ⟨0, Nat.zero_le _, rfl, by intro j hj; omega⟩
  case round =>
    obtain ⟨k, hk, rfl, hj⟩ := hrel
    have Hj := Lib.hid hj; clear hj
    by_cases hlt : k < n
    · obtain ⟨b, off, rfl, hc1⟩ := H.out.str (k := k) (by rw [Hn.out]; exact hlt)
      generalize he : l.getD k .empty = e at hc1
      have He := Lib.hid he; clear he
      generalize hq : p e = q
      have Hq := Lib.hid hq; clear hq
      have hpe := (Hp.out e); rw [Hq.out] at hpe
      have Hpe := Lib.hid hpe; clear hpe
      cases q with
      | true =>
        go_wp2_with (go_at_call 121; refine Hpe.out.mono ?_; rintro e w2 ⟨rfl, rfl⟩)
        go_ret
        exact ⟨ret_int (idxF_hit _ _ .empty k (by rw [Hn.out]; exact hlt) Hj.out (by rw [He.out, Hq.out])).symm, rfl⟩
      | false =>
        go_wp2_with (go_at_call 121; refine Hpe.out.mono ?_; rintro e w2 ⟨rfl, rfl⟩)
        go_round
        case rel =>
          refine ⟨k + 1, by omega, by go_num, fun j hj => ?_⟩
          rcases Nat.lt_succ_iff_lt_or_eq.1 hj with h1 | rfl
          · exact Hj.out j h1
          · rw [He.out, Hq.out]
        case measure => simp [intOf]; omega
    · go_wp2
      go_ret
      exact ⟨ret_int (idxF_miss _ _ .empty (fun j hj => Hj.out j (by have := Hn.out; omega))).symm, rfl⟩

theorem containsFuncC_any (p : Str → Bool) (lb : Array Value) (l : List Str) (A : Option Addr) (n c : Nat) (w : World) (hn : l.length = n) (hle : n ≤ 4611686018427387904) (h : Rd w A (l.map .string))
    (hp : ∀ s, Calls Tryz.prog 121 (#[.string s] ++ lb) w fun x w' => x = .returned (.bool (p s)) ∧ w = w') :
    Calls Tryz.prog 110 #[.slice A n c, .func (.func 121) #[] lb] w fun x w' => x = .returned (.bool (l.any p)) ∧ w = w' := by
  have hc := indexFuncC_any p lb l A n c w hn hle h hp
  have he := idxF_nonneg p l
  generalize idxF p l = r at hc he
  generalize l.any p = q at he ⊢
  have Hc := Lib.hid hc; clear hc h hp
  have He := Lib.hid he; clear he hn
  go_enter Tryz.func110, Tryz.ntmps110
  go_wp2_with (go_at_call 139; refine Hc.out.mono ?_; rintro e w' ⟨rfl, rfl⟩)
  go_ret
  exact ⟨ret_bool He.out, rfl⟩

set_option maxHeartbeats 1000000 in
set_option maxRecDepth 100000 in
theorem checkCame_any (l : LU) (hl : l.ok) (A : Array Value) (hA : A = l.cells.toArray) (slot : Int) (came : List Str) (C : Option Addr) (n c : Nat) (hn : came.length = n) (hle : n ≤ 4611686018427387904) (w : World) (hc : Rd w C (came.map .string)) :
    Calls Tryz.prog 66 #[.agg A, .int .i64 slot, .slice C n c] w fun x w' => x = .returned (.int .i64 (checkCame l slot came)) ∧ Below w.heap.size w w' := by
  have hbk : Bk (w.alloc (.cells A 33)) w.heap.size 33 A := Bk.new _ _ _
  have Hi := Lib.hid (show (Tryz.prog.info? 33).map (·.size) = some A.size by rw [info33, hA, LU.size18 l hl])
  have hB := bt_new w (.cells A 33)
  have hrd := hc.below hB
  have hsz : (w.alloc (.cells A 33)).heap.size = w.heap.size + 1 := World.size_alloc _ _
  have Hl := Lib.hid hl; have HA := Lib.hid hA; have Hn := Lib.hid hn; have Hbk := Lib.hid hbk; have HB := Lib.hid hB; have Hrd := Lib.hid hrd
  clear hl hA hn hbk hc hB hrd
  have he : checkCameE l slot came.length = firstE [checkLineup l, withinE slot 1 9, whenE (decide (256 < (n : Int))) 5] := by rw [Hn.out]; rfl
  have He := Lib.hid he; clear he
  by_cases hE : firstE [checkLineup l, withinE slot 1 9, whenE (decide (256 < (n : Int))) 5] = 0
  · have hz : (firstE [checkLineup l, withinE slot 1 9, whenE (decide (256 < (n : Int))) 5] != 0) = false := by simpa using hE
    have HE := Lib.hid hE; clear hE
    go_enter Tryz.func66, Tryz.ntmps66
    go_upto_region 4 with (first
      | (refine wpList_load_row rfl 33 _ rfl w.heap.size rfl 33 A (0, 0) _ Hbk.out Tryz.underlying33 rfl Hi.out ?_)
      | (go_at_call 109; refine (checkLineup_any l Hl.out A HA.out _).mono ?_; rintro e w1 ⟨rfl, hb1⟩)
      | (go_at_call 95; refine (ninth_any _ _).mono ?_; rintro e w' ⟨rfl, rfl⟩)
      | (go_at_call 68; refine (when_any _ _ _).mono ?_; rintro e w' ⟨rfl, rfl⟩)
      | (go_at_call 89; refine (first3 _ _ _ _ _ _ _ (by exact heap_alloc_new _ _)).mono ?_; rintro e w' ⟨rfl, rfl⟩))
    have F : Hid (Below w.heap.size w (w1.alloc (.cells #[.int .i64 (checkLineup l), .int .i64 (withinE slot 1 9), .int .i64 (whenE (decide (256 < (n : Int))) 5)] 30)) ∧
        Bk (w1.alloc (.cells #[.int .i64 (checkLineup l), .int .i64 (withinE slot 1 9), .int .i64 (whenE (decide (256 < (n : Int))) 5)] 30)) w.heap.size 33 l.cells.toArray ∧
        Rd (w1.alloc (.cells #[.int .i64 (checkLineup l), .int .i64 (withinE slot 1 9), .int .i64 (whenE (decide (256 < (n : Int))) 5)] 30)) C (came.map .string)) :=
      ⟨bt_alloc (bt_trans HB.out hb1) _, by rw [← HA.out]; exact (Hbk.out.below hb1 (by omega)).alloc _, Hrd.out.below (bt_alloc hb1 _)⟩
    clear hb1
    generalize (w1.alloc (.cells #[.int .i64 (checkLineup l), .int .i64 (withinE slot 1 9), .int .i64 (whenE (decide (256 < (n : Int))) 5)] 30)) = W1 at F ⊢
    have hcon := containsFuncC_any (fun s => !decide (s ∈ l.b)) #[.pointer (some ⟨w.heap.size, 0, none⟩)] came C n c W1 Hn.out hle F.out.2.2 (fun s => cameHasNot_any l Hl.out w.heap.size s W1 F.out.2.1)
    have Hcon := Lib.hid hcon; clear hcon
    go_wp2_with (first
      | (go_at_call 110; refine Hcon.out.mono ?_; rintro e w' ⟨rfl, rfl⟩)
      | (go_at_call 68; refine (when_any _ _ _).mono ?_; rintro e w' ⟨rfl, rfl⟩))
    go_ret
    refine ⟨ret_int ?_, F.out.1⟩
    unfold checkCame
    rw [He.out, if_neg (by rw [HE.out]; simp)]
  · have hz : (firstE [checkLineup l, withinE slot 1 9, whenE (decide (256 < (n : Int))) 5] != 0) = true := by simpa using hE
    have HE := Lib.hid hE; clear hE
    go_enter Tryz.func66, Tryz.ntmps66
    go_wp2_with (first
      | (refine wpList_load_row rfl 33 _ rfl w.heap.size rfl 33 A (0, 0) _ Hbk.out Tryz.underlying33 rfl Hi.out ?_)
      | (go_at_call 109; refine (checkLineup_any l Hl.out A HA.out _).mono ?_; rintro e w1 ⟨rfl, hb1⟩)
      | (go_at_call 95; refine (ninth_any _ _).mono ?_; rintro e w' ⟨rfl, rfl⟩)
      | (go_at_call 68; refine (when_any _ _ _).mono ?_; rintro e w' ⟨rfl, rfl⟩)
      | (go_at_call 89; refine (first3 _ _ _ _ _ _ _ (by exact heap_alloc_new _ _)).mono ?_; rintro e w' ⟨rfl, rfl⟩))
    go_ret
    exact ⟨ret_int (by unfold checkCame; rw [He.out, if_pos HE.out]), bt_alloc (bt_trans HB.out hb1) _⟩
end Go.Proofs.YtmagppkclnebjaaGreatDoor
