/- lineup: behind, holder; the teams at a play. -/
import Derived.Test.YtmagppkclnebjaaGreatDoorQa
set_option linter.unusedVariables false
set_option linter.unusedSimpArgs false
set_option linter.unusedSimpArgs false
namespace Go.Proofs.YtmagppkclnebjaaGreatDoor
open Go.RowKit
open L

set_option maxHeartbeats 1000000 in
theorem behind_any (l : LU) (hl : l.ok) (A : Array Value) (hA : A = l.cells.toArray) (i : Nat) (hi : i < 9) (w : World) :
    Calls Tryz.prog 67 #[.agg A, .int .i64 i] w fun x w' => x = .returned (.tuple #[.string (l.b.getD ((i + 1) % 9) .empty), .int .i64 (((i + 1) % 9 : Nat) : Int)]) ∧ Below w.heap.size w w' := by
  have hbk := Bk.new w 33 A
  rw [hA] at hbk
  obtain ⟨r, hr, hr9⟩ : ∃ r : Nat, (i + 1) % 9 = r ∧ r < 9 := ⟨_, rfl, by omega⟩
  have c := LU.cell_b hl hbk r hr9
  rw [hr]
  generalize l.b.getD r .empty = s at c ⊢
  have q1 : IntKind.i64.wrap ((i : Int) + 1) = (i : Int) + 1 := IntWalk.i64_in _ (by omega)
  have q2 : ((i : Int) + 1).tmod 9 = (r : Int) := by rw [Int.tmod_eq_emod_of_nonneg (by omega)]; omega
  have q3 : (0 : Int) ≤ (r : Int) := by omega
  have q4 : (r : Int) < 9 := by omega
  have q5 : IntKind.i64.wrap (r : Int) = (r : Int) := IntWalk.i64_in _ (by omega)
  rw [← hA] at c
  have hb := Lib.hid (bt_new w (.cells A 33))
  clear hbk hA hr hl hi
  go_enter Tryz.func67, Tryz.ntmps67
  go_wp2
  go_ret2
  exact ⟨rfl, hb.out⟩

set_option maxHeartbeats 1000000 in
theorem holder_any (l : LU) (hl : l.ok) (A : Array Value) (hA : A = l.cells.toArray) (p : Int) (w : World) :
    Calls Tryz.prog 96 #[.agg A, .int .i64 p] w fun x w' => x = .returned (.string (holder l p)) ∧ Below w.heap.size w w' := by
  have hbk := Bk.new w 33 A
  rw [hA] at hbk
  obtain ⟨r, hr, hr9⟩ : ∃ r : Nat, max (0 : Int) (idxF (fun y => decide (y = p)) l.p) = (r : Int) ∧ r < 9 := by
    have := idxF_bd (fun y => decide (y = p)) l.p
    rw [hl.2] at this
    exact ⟨(max (0 : Int) (idxF (fun y => decide (y = p)) l.p)).toNat, by omega, by omega⟩
  have c := LU.cell_b hl hbk r hr9
  have hrd : Rd (w.alloc (.cells A 33)) (some ⟨w.heap.size, 9, none⟩) (l.p.map (.int .i64)) := by
    have := Rd.lu_p hl (LU.bkCells hbk)
    rw [hA]; simpa using this
  have hh : holder l p = l.b.getD r .empty := by unfold holder; rw [hr]; rfl
  rw [hh]
  generalize l.b.getD r .empty = s at c ⊢
  have q3 : (0 : Int) ≤ (r : Int) := by omega
  have q4 : (r : Int) < 9 := by omega
  have hsl : ∀ W, (Instr.sliceAt 23 (.pointer (some ⟨w.heap.size, 9, none⟩)) none none none).run Tryz.prog W = .ok (.slice (some ⟨w.heap.size, 9, none⟩) 9 9) W := fun W =>
    run_slice_arr_all W 23 3 9 _ Tryz.underlying23 size3
  have hidx := indexI_any l.p (some ⟨w.heap.size, 9, none⟩) 9 9 p (w.alloc (.cells A 33)) hl.2 (by omega) hrd
  generalize idxF (fun y => decide (y = p)) l.p = v at hr hidx
  rw [← hA] at c
  have hb := Lib.hid (bt_new w (.cells A 33))
  have Hidx := Lib.hid hidx
  clear hbk hA hl hrd hidx hh
  by_cases hv : 0 < v
  · obtain rfl : v = (r : Int) := by omega
    clear hr
    have hv2 : 0 < r := by omega
    go_enter Tryz.func96, Tryz.ntmps96
    go_wp2_with (go_at_call 131; refine Hidx.out.mono ?_; rintro e w2 ⟨rfl, rfl⟩)
    go_ret
    exact ⟨rfl, hb.out⟩
  · obtain rfl : r = 0 := by omega
    clear hr q3 q4
    go_enter Tryz.func96, Tryz.ntmps96
    go_wp2_with (go_at_call 131; refine Hidx.out.mono ?_; rintro e w2 ⟨rfl, rfl⟩)
    go_ret
    exact ⟨rfl, hb.out⟩

theorem atL_stop (t : Tms) (d : Chg) (r : List Chg) (p : Int) (h : p < d.play) : atL t (d :: r) p = t := by unfold atL; rw [if_pos h]
theorem atL_go (t : Tms) (d : Chg) (r : List Chg) (p : Int) (h : ¬ p < d.play) : atL t (d :: r) p = atL (t.made d) r p := by rw [atL]; rw [if_neg h]

set_option maxHeartbeats 2000000 in
set_option maxRecDepth 100000 in
theorem at_any (t : Tms) (ht : t.ok) (T : Array Value) (hT : T = t.cells.toArray) (l : List Chg) (A : Option Addr) (n c : Nat) (hn : l.length = n) (hle : n ≤ 1000) (hok : ∀ d ∈ l, d.okS) (p : Int) (w : World) (hl : RdC w A l) :
    Calls Tryz.prog 91 #[.agg T, .slice A n c, .int .i64 p] w fun x w' => x = .returned (.agg (atL t l p).cells.toArray) ∧ Below w.heap.size w w' := by
  have F : Hid (Below w.heap.size w ((w.alloc (.cells T 54)).alloc (.cells #[.string { data := #[] }, .string { data := #[] }, .string { data := #[] }, .string { data := #[] }, .string { data := #[] }, .string { data := #[] }, .string { data := #[] }, .string { data := #[] }, .string { data := #[] }, .int .i64 0, .int .i64 0, .int .i64 0, .int .i64 0, .int .i64 0, .int .i64 0, .int .i64 0, .int .i64 0, .int .i64 0, .string { data := #[] }, .string { data := #[] }, .string { data := #[] }, .string { data := #[] }, .string { data := #[] }, .string { data := #[] }, .string { data := #[] }, .string { data := #[] }, .string { data := #[] }, .int .i64 0, .int .i64 0, .int .i64 0, .int .i64 0, .int .i64 0, .int .i64 0, .int .i64 0, .int .i64 0, .int .i64 0] 54)) ∧ Bk ((w.alloc (.cells T 54)).alloc (.cells #[.string { data := #[] }, .string { data := #[] }, .string { data := #[] }, .string { data := #[] }, .string { data := #[] }, .string { data := #[] }, .string { data := #[] }, .string { data := #[] }, .string { data := #[] }, .int .i64 0, .int .i64 0, .int .i64 0, .int .i64 0, .int .i64 0, .int .i64 0, .int .i64 0, .int .i64 0, .int .i64 0, .string { data := #[] }, .string { data := #[] }, .string { data := #[] }, .string { data := #[] }, .string { data := #[] }, .string { data := #[] }, .string { data := #[] }, .string { data := #[] }, .string { data := #[] }, .int .i64 0, .int .i64 0, .int .i64 0, .int .i64 0, .int .i64 0, .int .i64 0, .int .i64 0, .int .i64 0, .int .i64 0] 54)) w.heap.size 54 t.cells.toArray ∧
      ∃ Z : Array Value, Z.size = 36 ∧ Bk ((w.alloc (.cells T 54)).alloc (.cells #[.string { data := #[] }, .string { data := #[] }, .string { data := #[] }, .string { data := #[] }, .string { data := #[] }, .string { data := #[] }, .string { data := #[] }, .string { data := #[] }, .string { data := #[] }, .int .i64 0, .int .i64 0, .int .i64 0, .int .i64 0, .int .i64 0, .int .i64 0, .int .i64 0, .int .i64 0, .int .i64 0, .string { data := #[] }, .string { data := #[] }, .string { data := #[] }, .string { data := #[] }, .string { data := #[] }, .string { data := #[] }, .string { data := #[] }, .string { data := #[] }, .string { data := #[] }, .int .i64 0, .int .i64 0, .int .i64 0, .int .i64 0, .int .i64 0, .int .i64 0, .int .i64 0, .int .i64 0, .int .i64 0] 54)) (w.heap.size + 1) 54 Z) := by
    refine ⟨bt_alloc (bt_new w _) _, by rw [← hT]; exact (Bk.new w 54 T).alloc _, #[.string { data := #[] }, .string { data := #[] }, .string { data := #[] }, .string { data := #[] }, .string { data := #[] }, .string { data := #[] }, .string { data := #[] }, .string { data := #[] }, .string { data := #[] }, .int .i64 0, .int .i64 0, .int .i64 0, .int .i64 0, .int .i64 0, .int .i64 0, .int .i64 0, .int .i64 0, .int .i64 0, .string { data := #[] }, .string { data := #[] }, .string { data := #[] }, .string { data := #[] }, .string { data := #[] }, .string { data := #[] }, .string { data := #[] }, .string { data := #[] }, .string { data := #[] }, .int .i64 0, .int .i64 0, .int .i64 0, .int .i64 0, .int .i64 0, .int .i64 0, .int .i64 0, .int .i64 0, .int .i64 0], rfl, ?_⟩
    have := Bk.new (w.alloc (.cells T 54)) 54 #[.string { data := #[] }, .string { data := #[] }, .string { data := #[] }, .string { data := #[] }, .string { data := #[] }, .string { data := #[] }, .string { data := #[] }, .string { data := #[] }, .string { data := #[] }, .int .i64 0, .int .i64 0, .int .i64 0, .int .i64 0, .int .i64 0, .int .i64 0, .int .i64 0, .int .i64 0, .int .i64 0, .string { data := #[] }, .string { data := #[] }, .string { data := #[] }, .string { data := #[] }, .string { data := #[] }, .string { data := #[] }, .string { data := #[] }, .string { data := #[] }, .string { data := #[] }, .int .i64 0, .int .i64 0, .int .i64 0, .int .i64 0, .int .i64 0, .int .i64 0, .int .i64 0, .int .i64 0, .int .i64 0]
    rwa [World.size_alloc] at this
  have Ht := Lib.hid ht; have Hn := Lib.hid hn; have Hl := Lib.hid hl; have Hok := Lib.hid hok
  clear ht hn hl hT hok
  go_enter Tryz.func91, Tryz.ntmps91
  go_wp2
  generalize (w.alloc (.cells T 54)).alloc (.cells #[.string { data := #[] }, .string { data := #[] }, .string { data := #[] }, .string { data := #[] }, .string { data := #[] }, .string { data := #[] }, .string { data := #[] }, .string { data := #[] }, .string { data := #[] }, .int .i64 0, .int .i64 0, .int .i64 0, .int .i64 0, .int .i64 0, .int .i64 0, .int .i64 0, .int .i64 0, .int .i64 0, .string { data := #[] }, .string { data := #[] }, .string { data := #[] }, .string { data := #[] }, .string { data := #[] }, .string { data := #[] }, .string { data := #[] }, .string { data := #[] }, .string { data := #[] }, .int .i64 0, .int .i64 0, .int .i64 0, .int .i64 0, .int .i64 0, .int .i64 0, .int .i64 0, .int .i64 0, .int .i64 0] 54) = W1 at F ⊢
  go_loopw [11] (fun i wr => ∃ (k : Nat) (T1 : Tms), k ≤ n ∧ i = .int .i64 k ∧ T1.ok ∧ Below w.heap.size w wr ∧ Bk wr w.heap.size 54 T1.cells.toArray ∧ (∃ Z : Array Value, Z.size = 36 ∧ Bk wr (w.heap.size + 1) 54 Z) ∧ atL t l p = atL T1 (l.drop k) p) (fun i _ => n - (intOf i).toNat)
  case atStart => exact ⟨0, t, by omega, rfl, Ht.out, F.out.1, F.out.2.1, F.out.2.2, by simp⟩
  case round =>
    obtain ⟨k, T1, hk, rfl, ht1, hb, hbk, ⟨Z, hz, hbz⟩, hat⟩ := hrel
    clear F
    have Ht1 := Lib.hid ht1; have Hb := Lib.hid hb; have Hbk := Lib.hid hbk; have Hz := Lib.hid hz; have Hbz := Lib.hid hbz; have Hat := Lib.hid hat
    clear ht1 hb hbk hz hbz hat
    by_cases hkn : k < n
    · obtain ⟨b, off, rfl, hc⟩ := Hl.out k (by rw [Hn.out]; exact hkn)
      have hb0 : b < w.heap.size := World.block_lt_of_cell? w ⟨b, off + k * 5 + 0, none⟩ (u := .int .i64 (l.getD k ⟨0, 0, 0, .empty, 0⟩).side) (by rw [hc 0 (by omega)]; rfl)
      have hcell : ∀ j, j < 5 → wr.cell? ⟨b, off + k * 5 + j, none⟩ = (l.getD k ⟨0, 0, 0, .empty, 0⟩).val[j]? := fun j hj => by
        rw [Hb.out.cell (p := ⟨b, off + k * 5 + j, none⟩) hb0]; exact hc j hj
      have hdr : l.drop k = l.getD k ⟨0, 0, 0, .empty, 0⟩ :: l.drop (k + 1) := by
        have hkl : k < l.length := by rw [Hn.out]; exact hkn
        rw [List.drop_eq_getElem_cons hkl]
        simp [List.getD, List.getElem?_eq_getElem hkl]
      have hdo : (l.getD k ⟨0, 0, 0, .empty, 0⟩).okS := Hok.out _ (by
        have hkl : k < l.length := by rw [Hn.out]; exact hkn
        simp [List.getD, List.getElem?_eq_getElem hkl])
      generalize hd : l.getD k ⟨0, 0, 0, .empty, 0⟩ = d at hcell hdr hdo
      have Hdr := Lib.hid hdr; have Hdo := Lib.hid hdo; clear hd hdr hc hdo
      have c0 : wr.cell? ⟨b, off + k * 5, none⟩ = some (.int .i64 d.side) := hcell 0 (by omega)
      have c1 : wr.cell? ⟨b, off + k * 5 + 1, none⟩ = some (.int .i64 d.play) := hcell 1 (by omega)
      have c2 : wr.cell? ⟨b, off + k * 5 + 2, none⟩ = some (.int .i64 d.slot) := hcell 2 (by omega)
      have c3 : wr.cell? ⟨b, off + k * 5 + 3, none⟩ = some (.string d.name) := hcell 3 (by omega)
      have c4 : wr.cell? ⟨b, off + k * 5 + 4, none⟩ = some (.int .i64 d.pos) := hcell 4 (by omega)
      clear hcell
      have F0 : Hid (Below w.heap.size w (wr.alloc (.cells #[.int .i64 d.side, .int .i64 d.play, .int .i64 d.slot, .string d.name, .int .i64 d.pos] 142)) ∧ Bk (wr.alloc (.cells #[.int .i64 d.side, .int .i64 d.play, .int .i64 d.slot, .string d.name, .int .i64 d.pos] 142)) w.heap.size 54 T1.cells.toArray ∧ Bk (wr.alloc (.cells #[.int .i64 d.side, .int .i64 d.play, .int .i64 d.slot, .string d.name, .int .i64 d.pos] 142)) (w.heap.size + 1) 54 Z ∧ Bk (wr.alloc (.cells #[.int .i64 d.side, .int .i64 d.play, .int .i64 d.slot, .string d.name, .int .i64 d.pos] 142)) wr.heap.size 142 d.val) :=
        ⟨bt_alloc Hb.out _, Hbk.out.alloc _, Hbz.out.alloc _, Bk.new wr 142 #[.int .i64 d.side, .int .i64 d.play, .int .i64 d.slot, .string d.name, .int .i64 d.pos]⟩
      have hbx2 : w.heap.size + 1 < wr.heap.size := Hbz.out.lt
      go_upto_region 4 with fail
      generalize (wr.alloc (.cells #[.int .i64 d.side, .int .i64 d.play, .int .i64 d.slot, .string d.name, .int .i64 d.pos] 142)) = W0 at F0 ⊢
      generalize wr.heap.size = bx at F0 hbx2 ⊢
      clear c0 c1 c2 c3 c4 Hb Hbk Hbz
      have x0 : W0.cell? ⟨bx, 0, none⟩ = some (.int .i64 d.side) := by rw [F0.out.2.2.2.cell]; rfl
      have x1 : W0.cell? ⟨bx, 1, none⟩ = some (.int .i64 d.play) := by rw [F0.out.2.2.2.cell]; rfl
      have x2 : W0.cell? ⟨bx, 2, none⟩ = some (.int .i64 d.slot) := by rw [F0.out.2.2.2.cell]; rfl
      have x3 : W0.cell? ⟨bx, 3, none⟩ = some (.string d.name) := by rw [F0.out.2.2.2.cell]; rfl
      have x4 : W0.cell? ⟨bx, 4, none⟩ = some (.int .i64 d.pos) := by rw [F0.out.2.2.2.cell]; rfl
      by_cases hp : p < d.play
      · have Hth : Hid (W0.there (w.heap.size + 1) 0 T1.cells.toArray.size) := F0.out.2.2.1.there _ (by rw [Tms.size36 _ Ht1.out, Hz.out]; exact Nat.le_refl _)
        have Hi := Lib.hid (info54s T1.cells.toArray.size (Tms.size36 _ Ht1.out))
        have Hone := Lib.hid (Tms.oneCell T1)
        go_wp2_with (first
          | (refine wpList_load_row rfl 54 _ rfl w.heap.size rfl 54 T1.cells.toArray (0, 0) _ F0.out.2.1 Tryz.underlying54 rfl Hi.out ?_)
          | (refine wp_store_mid 54 (.tmp 6) (.tmp 22) rfl (w.heap.size + 1) 0 T1.cells.toArray rfl rfl Hth.out Hi.out Hone.out ?_)
          | (refine wpList_store_mid rfl 54 (.tmp 6) (.tmp 22) rfl (w.heap.size + 1) 0 T1.cells.toArray rfl rfl Hth.out Hi.out Hone.out ?_))
        refine bodyPost_ret (results_cell_row rfl _ _ (w.heap.size + 1) 54 T1.cells.toArray (0, 0) _ rfl (F0.out.2.2.1.fill T1.cells.toArray (by rw [Hz.out, Tms.size36 _ Ht1.out])) Tryz.underlying54 rfl Hi.out) rfl ?_
        refine ⟨by rw [Hat.out, Hdr.out, atL_stop _ _ _ _ hp], below_sets (by omega) F0.out.1 _ _⟩
      · have Hp := Lib.hid hp
        have hsd := Hdo.out
        go_wp2_with (first
          | (go_at_call 81; refine (make_any T1 Ht1.out w.heap.size d Hdo.out.1 Hdo.out.2.1 Hdo.out.2.2 _ (by exact F0.out.2.1)).mono ?_; rintro e W4 ⟨rfl, hmk, hmg⟩))
        have hW0 := F0.out.2.2.1.lt
        go_roundw
        case rel =>
          refine ⟨k + 1, T1.made d, by omega, by go_num, Tms.made_ok' T1 Ht1.out d, F0.out.1.grown hmg F0.out.1.size (fun q hq => by cases hq; omega), hmk, ⟨Z, Hz.out, (hmg.block _ hW0 (fun e => by have := Option.some.inj e; omega)).trans F0.out.2.2.1⟩, ?_⟩
          rw [Hat.out, Hdr.out, atL_go _ _ _ _ (by have := Hp.out; omega)]
        case measure => simp [intOf]; omega
    · obtain rfl : k = n := by omega
      obtain ⟨wo, hwo⟩ : ∃ wo : World, wo = wr := ⟨_, rfl⟩
      rw [← hwo] at Hb Hbk Hbz ⊢
      clear hwo
      have Hth : Hid (wo.there (w.heap.size + 1) 0 T1.cells.toArray.size) := Hbz.out.there _ (by rw [Tms.size36 _ Ht1.out, Hz.out]; exact Nat.le_refl _)
      have Hi := Lib.hid (info54s T1.cells.toArray.size (Tms.size36 _ Ht1.out))
      have Hone := Lib.hid (Tms.oneCell T1)
      go_wp2_with (first
        | (refine wpList_load_row rfl 54 _ rfl w.heap.size rfl 54 T1.cells.toArray (0, 0) _ Hbk.out Tryz.underlying54 rfl Hi.out ?_)
        | (refine wp_store_mid 54 (.tmp 6) (.tmp 22) rfl (w.heap.size + 1) 0 T1.cells.toArray rfl rfl Hth.out Hi.out Hone.out ?_)
        | (refine wpList_store_mid rfl 54 (.tmp 6) (.tmp 22) rfl (w.heap.size + 1) 0 T1.cells.toArray rfl rfl Hth.out Hi.out Hone.out ?_))
      refine bodyPost_ret (results_cell_row rfl _ _ (w.heap.size + 1) 54 T1.cells.toArray (0, 0) _ rfl (Hbz.out.fill T1.cells.toArray (by rw [Hz.out, Tms.size36 _ Ht1.out])) Tryz.underlying54 rfl Hi.out) rfl ?_
      refine ⟨by rw [Hat.out, List.drop_of_length_le (by rw [Hn.out]; exact Nat.le_refl _), atL], below_sets (by omega) Hb.out _ _⟩
end Go.Proofs.YtmagppkclnebjaaGreatDoor
