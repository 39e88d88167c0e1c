/- Texts of this seat, joined: lineup: behind, holder; the teams at a play · lineup.checkCame, Deviate, Improper: what comes up out of turn · lineup.Deviate and Improper: the first deviation, and the indices of all improper names. -/
import Derived.Test.YtmagppkclnebjaaGreatDoorQa
import Derived.OwnWalk
import Derived.Maps.AppendAt
import Derived.WalkMore
import Derived.StillTailTactics
set_option linter.unusedVariables false
set_option linter.unusedSimpArgs false
set_option linter.unusedSimpArgs false
namespace Go.Proofs.YtmagppkclnebjaaGreatDoor
open Go.RowKit
open L

set_option maxHeartbeats 1000000 in
theorem behind_any (l : LU) (hl : l.ok) (A : Array Value) (hA : A = l.cells.toArray) (i : Nat) (hi : i < 9) (w : World) :
 Calls Tryz.prog 67 #[.agg A, .int .i64 i] w fun x w' => x = .returned (.tuple #[.string (l.b.getD ((i + 1) % 9) .empty), .int .i64 (((i + 1) % 9 : Nat) : Int)]) ∧ Below w.heap.size w w' := by
 have hbk := Bk.new w 33 A
 rw [hA] at hbk
 obtain ⟨r, hr, hr9⟩ : ∃ r : Nat, (i + 1) % 9 = r ∧ r < 9 := ⟨_, rfl, by omega⟩
 have c := LU.cell_b hl hbk r hr9
 rw [hr]
 generalize l.b.getD r .empty = s at c ⊢
 have q1 : IntKind.i64.wrap ((i : Int) + 1) = (i : Int) + 1 := IntWalk.i64_in _ (by omega)
 have q2 : ((i : Int) + 1).tmod 9 = (r : Int) := by rw [Int.tmod_eq_emod_of_nonneg (by omega)]; omega
 have q3 : (0 : Int) ≤ (r : Int) := by omega
 have q4 : (r : Int) < 9 := by omega
 have q5 : IntKind.i64.wrap (r : Int) = (r : Int) := IntWalk.i64_in _ (by omega)
 rw [← hA] at c
 have hb := Lib.hid (bt_new w (.cells A 33))
 clear hbk hA hr hl hi
 go_enter Tryz.func67, Tryz.ntmps67
 go_wp2
 go_ret2
 exact ⟨rfl, hb.out⟩

set_option maxHeartbeats 1000000 in
theorem holder_any (l : LU) (hl : l.ok) (A : Array Value) (hA : A = l.cells.toArray) (p : Int) (w : World) :
 Calls Tryz.prog 96 #[.agg A, .int .i64 p] w fun x w' => x = .returned (.string (holder l p)) ∧ Below w.heap.size w w' := by
 have hbk := Bk.new w 33 A
 rw [hA] at hbk
 obtain ⟨r, hr, hr9⟩ : ∃ r : Nat, max (0 : Int) (idxF (fun y => decide (y = p)) l.p) = (r : Int) ∧ r < 9 := by
  have := idxF_bd (fun y => decide (y = p)) l.p
  rw [hl.2] at this
  exact ⟨(max (0 : Int) (idxF (fun y => decide (y = p)) l.p)).toNat, by omega, by omega⟩
 have c := LU.cell_b hl hbk r hr9
 have hrd : Rd (w.alloc (.cells A 33)) (some ⟨w.heap.size, 9, none⟩) (l.p.map (.int .i64)) := by
  have := Rd.lu_p hl (LU.bkCells hbk)
  rw [hA]; simpa using this
 have hh : holder l p = l.b.getD r .empty := by unfold holder; rw [hr]; rfl
 rw [hh]
 generalize l.b.getD r .empty = s at c ⊢
 have q3 : (0 : Int) ≤ (r : Int) := by omega
 have q4 : (r : Int) < 9 := by omega
 have hsl : ∀ W, (Instr.sliceAt 23 (.pointer (some ⟨w.heap.size, 9, none⟩)) none none none).run Tryz.prog W = .ok (.slice (some ⟨w.heap.size, 9, none⟩) 9 9) W := fun W =>
  run_slice_arr_all W 23 3 9 _ Tryz.underlying23 size3
 have hidx := indexI_any l.p (some ⟨w.heap.size, 9, none⟩) 9 9 p (w.alloc (.cells A 33)) hl.2 (by omega) hrd
 generalize idxF (fun y => decide (y = p)) l.p = v at hr hidx
 rw [← hA] at c
 have hb := Lib.hid (bt_new w (.cells A 33))
 have Hidx := Lib.hid hidx
 clear hbk hA hl hrd hidx hh
 by_cases hv : 0 < v
 ·
  obtain rfl : v = (r : Int) := by omega
  clear hr
  have hv2 : 0 < r := by omega
  go_enter Tryz.func96, Tryz.ntmps96
  go_wp2_with (go_at_call 131; refine Hidx.out.mono ?_; rintro e w2 ⟨rfl, rfl⟩)
  go_ret
  exact ⟨rfl, hb.out⟩
 ·
  obtain rfl : r = 0 := by omega
  clear hr q3 q4
  go_enter Tryz.func96, Tryz.ntmps96
  go_wp2_with (go_at_call 131; refine Hidx.out.mono ?_; rintro e w2 ⟨rfl, rfl⟩)
  go_ret
  exact ⟨rfl, hb.out⟩

theorem atL_stop (t : Tms) (d : Chg) (r : List Chg) (p : Int) (h : p < d.play) : atL t (d :: r) p = t := by unfold atL; rw [if_pos h]
theorem atL_go (t : Tms) (d : Chg) (r : List Chg) (p : Int) (h : ¬ p < d.play) : atL t (d :: r) p = atL (t.made d) r p := by rw [atL]; rw [if_neg h]

set_option maxHeartbeats 2000000 in
set_option maxRecDepth 100000 in
theorem at_any (t : Tms) (ht : t.ok) (T : Array Value) (hT : T = t.cells.toArray) (l : List Chg) (A : Option Addr) (n c : Nat) (hn : l.length = n) (hle : n ≤ 1000) (hok : ∀ d ∈ l, d.okS) (p : Int) (w : World) (hl : RdC w A l) :
 Calls Tryz.prog 91 #[.agg T, .slice A n c, .int .i64 p] w fun x w' => x = .returned (.agg (atL t l p).cells.toArray) ∧ Below w.heap.size w w' := by
 have F : Hid (Below w.heap.size w ((w.alloc (.cells T 54)).alloc (.cells #[.string { data := #[] }, .string { data := #[] }, .string { data := #[] }, .string { data := #[] }, .string { data := #[] }, .string { data := #[] }, .string { data := #[] }, .string { data := #[] }, .string { data := #[] }, .int .i64 0, .int .i64 0, .int .i64 0, .int .i64 0, .int .i64 0, .int .i64 0, .int .i64 0, .int .i64 0, .int .i64 0, .string { data := #[] }, .string { data := #[] }, .string { data := #[] }, .string { data := #[] }, .string { data := #[] }, .string { data := #[] }, .string { data := #[] }, .string { data := #[] }, .string { data := #[] }, .int .i64 0, .int .i64 0, .int .i64 0, .int .i64 0, .int .i64 0, .int .i64 0, .int .i64 0, .int .i64 0, .int .i64 0] 54)) ∧ Bk ((w.alloc (.cells T 54)).alloc (.cells #[.string { data := #[] }, .string { data := #[] }, .string { data := #[] }, .string { data := #[] }, .string { data := #[] }, .string { data := #[] }, .string { data := #[] }, .string { data := #[] }, .string { data := #[] }, .int .i64 0, .int .i64 0, .int .i64 0, .int .i64 0, .int .i64 0, .int .i64 0, .int .i64 0, .int .i64 0, .int .i64 0, .string { data := #[] }, .string { data := #[] }, .string { data := #[] }, .string { data := #[] }, .string { data := #[] }, .string { data := #[] }, .string { data := #[] }, .string { data := #[] }, .string { data := #[] }, .int .i64 0, .int .i64 0, .int .i64 0, .int .i64 0, .int .i64 0, .int .i64 0, .int .i64 0, .int .i64 0, .int .i64 0] 54)) w.heap.size 54 t.cells.toArray ∧
  ∃ Z : Array Value, Z.size = 36 ∧ Bk ((w.alloc (.cells T 54)).alloc (.cells #[.string { data := #[] }, .string { data := #[] }, .string { data := #[] }, .string { data := #[] }, .string { data := #[] }, .string { data := #[] }, .string { data := #[] }, .string { data := #[] }, .string { data := #[] }, .int .i64 0, .int .i64 0, .int .i64 0, .int .i64 0, .int .i64 0, .int .i64 0, .int .i64 0, .int .i64 0, .int .i64 0, .string { data := #[] }, .string { data := #[] }, .string { data := #[] }, .string { data := #[] }, .string { data := #[] }, .string { data := #[] }, .string { data := #[] }, .string { data := #[] }, .string { data := #[] }, .int .i64 0, .int .i64 0, .int .i64 0, .int .i64 0, .int .i64 0, .int .i64 0, .int .i64 0, .int .i64 0, .int .i64 0] 54)) (w.heap.size + 1) 54 Z) := by
  refine ⟨bt_alloc (bt_new w _) _, by rw [← hT]; exact (Bk.new w 54 T).alloc _, #[.string { data := #[] }, .string { data := #[] }, .string { data := #[] }, .string { data := #[] }, .string { data := #[] }, .string { data := #[] }, .string { data := #[] }, .string { data := #[] }, .string { data := #[] }, .int .i64 0, .int .i64 0, .int .i64 0, .int .i64 0, .int .i64 0, .int .i64 0, .int .i64 0, .int .i64 0, .int .i64 0, .string { data := #[] }, .string { data := #[] }, .string { data := #[] }, .string { data := #[] }, .string { data := #[] }, .string { data := #[] }, .string { data := #[] }, .string { data := #[] }, .string { data := #[] }, .int .i64 0, .int .i64 0, .int .i64 0, .int .i64 0, .int .i64 0, .int .i64 0, .int .i64 0, .int .i64 0, .int .i64 0], rfl, ?_⟩
  have := Bk.new (w.alloc (.cells T 54)) 54 #[.string { data := #[] }, .string { data := #[] }, .string { data := #[] }, .string { data := #[] }, .string { data := #[] }, .string { data := #[] }, .string { data := #[] }, .string { data := #[] }, .string { data := #[] }, .int .i64 0, .int .i64 0, .int .i64 0, .int .i64 0, .int .i64 0, .int .i64 0, .int .i64 0, .int .i64 0, .int .i64 0, .string { data := #[] }, .string { data := #[] }, .string { data := #[] }, .string { data := #[] }, .string { data := #[] }, .string { data := #[] }, .string { data := #[] }, .string { data := #[] }, .string { data := #[] }, .int .i64 0, .int .i64 0, .int .i64 0, .int .i64 0, .int .i64 0, .int .i64 0, .int .i64 0, .int .i64 0, .int .i64 0]
  rwa [World.size_alloc] at this
 have Ht := Lib.hid ht; have Hn := Lib.hid hn; have Hl := Lib.hid hl; have Hok := Lib.hid hok
 clear ht hn hl hT hok
 go_enter Tryz.func91, Tryz.ntmps91
 go_wp2
 generalize (w.alloc (.cells T 54)).alloc (.cells #[.string { data := #[] }, .string { data := #[] }, .string { data := #[] }, .string { data := #[] }, .string { data := #[] }, .string { data := #[] }, .string { data := #[] }, .string { data := #[] }, .string { data := #[] }, .int .i64 0, .int .i64 0, .int .i64 0, .int .i64 0, .int .i64 0, .int .i64 0, .int .i64 0, .int .i64 0, .int .i64 0, .string { data := #[] }, .string { data := #[] }, .string { data := #[] }, .string { data := #[] }, .string { data := #[] }, .string { data := #[] }, .string { data := #[] }, .string { data := #[] }, .string { data := #[] }, .int .i64 0, .int .i64 0, .int .i64 0, .int .i64 0, .int .i64 0, .int .i64 0, .int .i64 0, .int .i64 0, .int .i64 0] 54) = W1 at F ⊢
 go_loopw [11] (fun i wr => ∃ (k : Nat) (T1 : Tms), k ≤ n ∧ i = .int .i64 k ∧ T1.ok ∧ Below w.heap.size w wr ∧ Bk wr w.heap.size 54 T1.cells.toArray ∧ (∃ Z : Array Value, Z.size = 36 ∧ Bk wr (w.heap.size + 1) 54 Z) ∧ atL t l p = atL T1 (l.drop k) p) (fun i _ => n - (intOf i).toNat)
 case atStart => exact ⟨0, t, by omega, rfl, Ht.out, F.out.1, F.out.2.1, F.out.2.2, by simp⟩
 case round =>
  obtain ⟨k, T1, hk, rfl, ht1, hb, hbk, ⟨Z, hz, hbz⟩, hat⟩ := hrel
  clear F
  have Ht1 := Lib.hid ht1; have Hb := Lib.hid hb; have Hbk := Lib.hid hbk; have Hz := Lib.hid hz; have Hbz := Lib.hid hbz; have Hat := Lib.hid hat
  clear ht1 hb hbk hz hbz hat
  by_cases hkn : k < n
  ·
   obtain ⟨b, off, rfl, hc⟩ := Hl.out k (by rw [Hn.out]; exact hkn)
   have hb0 : b < w.heap.size := World.block_lt_of_cell? w ⟨b, off + k * 5 + 0, none⟩ (u := .int .i64 (l.getD k ⟨0, 0, 0, .empty, 0⟩).side) (by rw [hc 0 (by omega)]; rfl)
   have hcell : ∀ j, j < 5 → wr.cell? ⟨b, off + k * 5 + j, none⟩ = (l.getD k ⟨0, 0, 0, .empty, 0⟩).val[j]? := fun j hj => by
    rw [Hb.out.cell (p := ⟨b, off + k * 5 + j, none⟩) hb0]; exact hc j hj
   have hdr : l.drop k = l.getD k ⟨0, 0, 0, .empty, 0⟩ :: l.drop (k + 1) := by
    have hkl : k < l.length := by rw [Hn.out]; exact hkn
    rw [List.drop_eq_getElem_cons hkl]
    simp [List.getD, List.getElem?_eq_getElem hkl]
   have hdo : (l.getD k ⟨0, 0, 0, .empty, 0⟩).okS := Hok.out _ (by
    have hkl : k < l.length := by rw [Hn.out]; exact hkn
    simp [List.getD, List.getElem?_eq_getElem hkl])
   generalize hd : l.getD k ⟨0, 0, 0, .empty, 0⟩ = d at hcell hdr hdo
   have Hdr := Lib.hid hdr; have Hdo := Lib.hid hdo; clear hd hdr hc hdo
   have c0 : wr.cell? ⟨b, off + k * 5, none⟩ = some (.int .i64 d.side) := hcell 0 (by omega)
   have c1 : wr.cell? ⟨b, off + k * 5 + 1, none⟩ = some (.int .i64 d.play) := hcell 1 (by omega)
   have c2 : wr.cell? ⟨b, off + k * 5 + 2, none⟩ = some (.int .i64 d.slot) := hcell 2 (by omega)
   have c3 : wr.cell? ⟨b, off + k * 5 + 3, none⟩ = some (.string d.name) := hcell 3 (by omega)
   have c4 : wr.cell? ⟨b, off + k * 5 + 4, none⟩ = some (.int .i64 d.pos) := hcell 4 (by omega)
   clear hcell
   have F0 : Hid (Below w.heap.size w (wr.alloc (.cells #[.int .i64 d.side, .int .i64 d.play, .int .i64 d.slot, .string d.name, .int .i64 d.pos] 142)) ∧ Bk (wr.alloc (.cells #[.int .i64 d.side, .int .i64 d.play, .int .i64 d.slot, .string d.name, .int .i64 d.pos] 142)) w.heap.size 54 T1.cells.toArray ∧ Bk (wr.alloc (.cells #[.int .i64 d.side, .int .i64 d.play, .int .i64 d.slot, .string d.name, .int .i64 d.pos] 142)) (w.heap.size + 1) 54 Z ∧ Bk (wr.alloc (.cells #[.int .i64 d.side, .int .i64 d.play, .int .i64 d.slot, .string d.name, .int .i64 d.pos] 142)) wr.heap.size 142 d.val) :=
    ⟨bt_alloc Hb.out _, Hbk.out.alloc _, Hbz.out.alloc _, Bk.new wr 142 #[.int .i64 d.side, .int .i64 d.play, .int .i64 d.slot, .string d.name, .int .i64 d.pos]⟩
   have hbx2 : w.heap.size + 1 < wr.heap.size := Hbz.out.lt
   go_upto_region 4 with fail
   generalize (wr.alloc (.cells #[.int .i64 d.side, .int .i64 d.play, .int .i64 d.slot, .string d.name, .int .i64 d.pos] 142)) = W0 at F0 ⊢
   generalize wr.heap.size = bx at F0 hbx2 ⊢
   clear c0 c1 c2 c3 c4 Hb Hbk Hbz
   have x0 : W0.cell? ⟨bx, 0, none⟩ = some (.int .i64 d.side) := by rw [F0.out.2.2.2.cell]; rfl
   have x1 : W0.cell? ⟨bx, 1, none⟩ = some (.int .i64 d.play) := by rw [F0.out.2.2.2.cell]; rfl
   have x2 : W0.cell? ⟨bx, 2, none⟩ = some (.int .i64 d.slot) := by rw [F0.out.2.2.2.cell]; rfl
   have x3 : W0.cell? ⟨bx, 3, none⟩ = some (.string d.name) := by rw [F0.out.2.2.2.cell]; rfl
   have x4 : W0.cell? ⟨bx, 4, none⟩ = some (.int .i64 d.pos) := by rw [F0.out.2.2.2.cell]; rfl
   by_cases hp : p < d.play
   ·
    have Hth : Hid (W0.there (w.heap.size + 1) 0 T1.cells.toArray.size) := F0.out.2.2.1.there _ (by rw [Tms.size36 _ Ht1.out, Hz.out]; exact Nat.le_refl _)
    have Hi := Lib.hid (info54s T1.cells.toArray.size (Tms.size36 _ Ht1.out))
    have Hone := Lib.hid (Tms.oneCell T1)
    go_wp2_with (first
     | (refine wpList_load_row rfl 54 _ rfl w.heap.size rfl 54 T1.cells.toArray (0, 0) _ F0.out.2.1 Tryz.underlying54 rfl Hi.out ?_)
     | (refine wp_store_mid 54 (.tmp 6) (.tmp 22) rfl (w.heap.size + 1) 0 T1.cells.toArray rfl rfl Hth.out Hi.out Hone.out ?_)
     | (refine wpList_store_mid rfl 54 (.tmp 6) (.tmp 22) rfl (w.heap.size + 1) 0 T1.cells.toArray rfl rfl Hth.out Hi.out Hone.out ?_))
    refine bodyPost_ret (results_cell_row rfl _ _ (w.heap.size + 1) 54 T1.cells.toArray (0, 0) _ rfl (F0.out.2.2.1.fill T1.cells.toArray (by rw [Hz.out, Tms.size36 _ Ht1.out])) Tryz.underlying54 rfl Hi.out) rfl ?_
    refine ⟨by rw [Hat.out, Hdr.out, atL_stop _ _ _ _ hp], below_sets (by omega) F0.out.1 _ _⟩
   ·
    have Hp := Lib.hid hp
    have hsd := Hdo.out
    go_wp2_with (first
     | (go_at_call 81; refine (make_any T1 Ht1.out w.heap.size d Hdo.out.1 Hdo.out.2.1 Hdo.out.2.2 _ (by exact F0.out.2.1)).mono ?_; rintro e W4 ⟨rfl, hmk, hmg⟩))
    have hW0 := F0.out.2.2.1.lt
    go_roundw
    case rel =>
     refine ⟨k + 1, T1.made d, by omega, by go_num, Tms.made_ok' T1 Ht1.out d, F0.out.1.grown hmg F0.out.1.size (fun q hq => by cases hq; omega), hmk, ⟨Z, Hz.out, (hmg.block _ hW0 (fun e => by have := Option.some.inj e; omega)).trans F0.out.2.2.1⟩, ?_⟩
     rw [Hat.out, Hdr.out, atL_go _ _ _ _ (by have := Hp.out; omega)]
    case measure => simp [intOf]; omega
  ·
   obtain rfl : k = n := by omega
   obtain ⟨wo, hwo⟩ : ∃ wo : World, wo = wr := ⟨_, rfl⟩
   rw [← hwo] at Hb Hbk Hbz ⊢
   clear hwo
   have Hth : Hid (wo.there (w.heap.size + 1) 0 T1.cells.toArray.size) := Hbz.out.there _ (by rw [Tms.size36 _ Ht1.out, Hz.out]; exact Nat.le_refl _)
   have Hi := Lib.hid (info54s T1.cells.toArray.size (Tms.size36 _ Ht1.out))
   have Hone := Lib.hid (Tms.oneCell T1)
   go_wp2_with (first
    | (refine wpList_load_row rfl 54 _ rfl w.heap.size rfl 54 T1.cells.toArray (0, 0) _ Hbk.out Tryz.underlying54 rfl Hi.out ?_)
    | (refine wp_store_mid 54 (.tmp 6) (.tmp 22) rfl (w.heap.size + 1) 0 T1.cells.toArray rfl rfl Hth.out Hi.out Hone.out ?_)
    | (refine wpList_store_mid rfl 54 (.tmp 6) (.tmp 22) rfl (w.heap.size + 1) 0 T1.cells.toArray rfl rfl Hth.out Hi.out Hone.out ?_))
   refine bodyPost_ret (results_cell_row rfl _ _ (w.heap.size + 1) 54 T1.cells.toArray (0, 0) _ rfl (Hbz.out.fill T1.cells.toArray (by rw [Hz.out, Tms.size36 _ Ht1.out])) Tryz.underlying54 rfl Hi.out) rfl ?_
   refine ⟨by rw [Hat.out, List.drop_of_length_le (by rw [Hn.out]; exact Nat.le_refl _), atL], below_sets (by omega) Hb.out _ _⟩
end Go.Proofs.YtmagppkclnebjaaGreatDoor

set_option linter.unusedSimpArgs false
namespace Go.Proofs.YtmagppkclnebjaaGreatDoor
open Go.RowKit
open L

/-- the closure of checkCame -/
theorem cameHasNot_any (l : LU) (hl : l.ok) (g : Nat) (s : Str) (w : World) (h : Bk w g 33 l.cells.toArray) :
 Calls Tryz.prog 121 #[.string s, .pointer (some ⟨g, 0, none⟩)] w fun x w' => x = .returned (.bool (!decide (s ∈ l.b))) ∧ w = w' := by
 have hrd := Rd.lu_b (LU.bkCells h)
 have hsl : ∀ W, (Instr.sliceAt 22 (.pointer (some ⟨g, 0, none⟩)) none none none).run Tryz.prog W = .ok (.slice (some ⟨g, 0, none⟩) 9 9) W := fun W =>
  run_slice_arr_all W 22 9 9 _ Tryz.underlying22 size9
 have hll : Hid (l.b.length = 9) := hl.1
 have Hrd := Lib.hid hrd; clear hrd h hl
 go_enter Tryz.func121, Tryz.ntmps121
 go_wp2_with (first
  | (go_at_call 93; refine (containsS_any l.b _ _ _ _ _ hll.out (by omega) Hrd.out).mono ?_; rintro e w2 ⟨rfl, rfl⟩))
 go_ret
 exact ⟨rfl, rfl⟩

set_option maxHeartbeats 400000 in
theorem indexFuncC_any (p : Str → Bool) (lb : Array Value) (l : List Str) (A : Option Addr) (n c : Nat) (w : World) (hn : l.length = n) (hle : n ≤ 4611686018427387904) (h : Rd w A (l.map .string))
 (hp : ∀ s, Calls Tryz.prog 121 (#[.string s] ++ lb) w fun x w' => x = .returned (.bool (p s)) ∧ w = w') :
 Calls Tryz.prog 139 #[.slice A n c, .func (.func 121) #[] lb] w fun x w' => x = .returned (.int .i64 (idxF p l)) ∧ w = w' := by
 have Hn := Lib.hid hn; clear hn
 have H := Lib.hid h; clear h
 have Hp := Lib.hid hp; clear hp
 go_enter Tryz.func139, Tryz.ntmps139
 go_wp2
 go_loop [8] (fun i => ∃ k : Nat, k ≤ n ∧ i = .int .i64 k ∧ ∀ j, j < k → p (l.getD j .empty) = false) (fun i => n - (intOf i).toNat)
 case atStart => exact ⟨0, Nat.zero_le _, rfl, by intro j hj; omega⟩
 case round =>
  obtain ⟨k, hk, rfl, hj⟩ := hrel
  have Hj := Lib.hid hj; clear hj
  by_cases hlt : k < n
  ·
   obtain ⟨b, off, rfl, hc1⟩ := H.out.str (k := k) (by rw [Hn.out]; exact hlt)
   generalize he : l.getD k .empty = e at hc1
   have He := Lib.hid he; clear he
   generalize hq : p e = q
   have Hq := Lib.hid hq; clear hq
   have hpe := (Hp.out e); rw [Hq.out] at hpe
   have Hpe := Lib.hid hpe; clear hpe
   cases q with
   | true =>
    go_wp2_with (go_at_call 121; refine Hpe.out.mono ?_; rintro e w2 ⟨rfl, rfl⟩)
    go_ret
    exact ⟨ret_int (idxF_hit _ _ .empty k (by rw [Hn.out]; exact hlt) Hj.out (by rw [He.out, Hq.out])).symm, rfl⟩
   | false =>
    go_wp2_with (go_at_call 121; refine Hpe.out.mono ?_; rintro e w2 ⟨rfl, rfl⟩)
    go_round
    case rel =>
     refine ⟨k + 1, by omega, by go_num, fun j hj => ?_⟩
     rcases Nat.lt_succ_iff_lt_or_eq.1 hj with h1 | rfl
     ·
      exact Hj.out j h1
     ·
      rw [He.out, Hq.out]
    case measure => simp [intOf]; omega
  ·
   go_wp2
   go_ret
   exact ⟨ret_int (idxF_miss _ _ .empty (fun j hj => Hj.out j (by have := Hn.out; omega))).symm, rfl⟩

theorem containsFuncC_any (p : Str → Bool) (lb : Array Value) (l : List Str) (A : Option Addr) (n c : Nat) (w : World) (hn : l.length = n) (hle : n ≤ 4611686018427387904) (h : Rd w A (l.map .string))
 (hp : ∀ s, Calls Tryz.prog 121 (#[.string s] ++ lb) w fun x w' => x = .returned (.bool (p s)) ∧ w = w') :
 Calls Tryz.prog 110 #[.slice A n c, .func (.func 121) #[] lb] w fun x w' => x = .returned (.bool (l.any p)) ∧ w = w' := by
 have hc := indexFuncC_any p lb l A n c w hn hle h hp
 have he := idxF_nonneg p l
 generalize idxF p l = r at hc he
 generalize l.any p = q at he ⊢
 have Hc := Lib.hid hc; clear hc h hp
 have He := Lib.hid he; clear he hn
 go_enter Tryz.func110, Tryz.ntmps110
 go_wp2_with (go_at_call 139; refine Hc.out.mono ?_; rintro e w' ⟨rfl, rfl⟩)
 go_ret
 exact ⟨ret_bool He.out, rfl⟩

set_option maxHeartbeats 1000000 in
set_option maxRecDepth 100000 in
theorem checkCame_any (l : LU) (hl : l.ok) (A : Array Value) (hA : A = l.cells.toArray) (slot : Int) (came : List Str) (C : Option Addr) (n c : Nat) (hn : came.length = n) (hle : n ≤ 4611686018427387904) (w : World) (hc : Rd w C (came.map .string)) :
 Calls Tryz.prog 66 #[.agg A, .int .i64 slot, .slice C n c] w fun x w' => x = .returned (.int .i64 (checkCame l slot came)) ∧ Below w.heap.size w w' := by
 have hbk : Bk (w.alloc (.cells A 33)) w.heap.size 33 A := Bk.new _ _ _
 have Hi := Lib.hid (show (Tryz.prog.info? 33).map (·.size) = some A.size by rw [info33, hA, LU.size18 l hl])
 have hB := bt_new w (.cells A 33)
 have hrd := hc.below hB
 have hsz : (w.alloc (.cells A 33)).heap.size = w.heap.size + 1 := World.size_alloc _ _
 have Hl := Lib.hid hl; have HA := Lib.hid hA; have Hn := Lib.hid hn; have Hbk := Lib.hid hbk; have HB := Lib.hid hB; have Hrd := Lib.hid hrd
 clear hl hA hn hbk hc hB hrd
 have he : checkCameE l slot came.length = firstE [checkLineup l, withinE slot 1 9, whenE (decide (256 < (n : Int))) 5] := by rw [Hn.out]; rfl
 have He := Lib.hid he; clear he
 by_cases hE : firstE [checkLineup l, withinE slot 1 9, whenE (decide (256 < (n : Int))) 5] = 0
 ·
  have hz : (firstE [checkLineup l, withinE slot 1 9, whenE (decide (256 < (n : Int))) 5] != 0) = false := by simpa using hE
  have HE := Lib.hid hE; clear hE
  go_enter Tryz.func66, Tryz.ntmps66
  go_upto_region 4 with (first
   | (refine wpList_load_row rfl 33 _ rfl w.heap.size rfl 33 A (0, 0) _ Hbk.out Tryz.underlying33 rfl Hi.out ?_)
   | (go_at_call 109; refine (checkLineup_any l Hl.out A HA.out _).mono ?_; rintro e w1 ⟨rfl, hb1⟩)
   | (go_at_call 95; refine (ninth_any _ _).mono ?_; rintro e w' ⟨rfl, rfl⟩)
   | (go_at_call 68; refine (when_any _ _ _).mono ?_; rintro e w' ⟨rfl, rfl⟩)
   | (go_at_call 89; refine (first3 _ _ _ _ _ _ _ (by exact heap_alloc_new _ _)).mono ?_; rintro e w' ⟨rfl, rfl⟩))
  have F : Hid (Below w.heap.size w (w1.alloc (.cells #[.int .i64 (checkLineup l), .int .i64 (withinE slot 1 9), .int .i64 (whenE (decide (256 < (n : Int))) 5)] 30)) ∧
   Bk (w1.alloc (.cells #[.int .i64 (checkLineup l), .int .i64 (withinE slot 1 9), .int .i64 (whenE (decide (256 < (n : Int))) 5)] 30)) w.heap.size 33 l.cells.toArray ∧
   Rd (w1.alloc (.cells #[.int .i64 (checkLineup l), .int .i64 (withinE slot 1 9), .int .i64 (whenE (decide (256 < (n : Int))) 5)] 30)) C (came.map .string)) :=
   ⟨bt_alloc (bt_trans HB.out hb1) _, by rw [← HA.out]; exact (Hbk.out.below hb1 (by omega)).alloc _, Hrd.out.below (bt_alloc hb1 _)⟩
  clear hb1
  generalize (w1.alloc (.cells #[.int .i64 (checkLineup l), .int .i64 (withinE slot 1 9), .int .i64 (whenE (decide (256 < (n : Int))) 5)] 30)) = W1 at F ⊢
  have hcon := containsFuncC_any (fun s => !decide (s ∈ l.b)) #[.pointer (some ⟨w.heap.size, 0, none⟩)] came C n c W1 Hn.out hle F.out.2.2 (fun s => cameHasNot_any l Hl.out w.heap.size s W1 F.out.2.1)
  have Hcon := Lib.hid hcon; clear hcon
  go_wp2_with (first
   | (go_at_call 110; refine Hcon.out.mono ?_; rintro e w' ⟨rfl, rfl⟩)
   | (go_at_call 68; refine (when_any _ _ _).mono ?_; rintro e w' ⟨rfl, rfl⟩))
  go_ret
  refine ⟨ret_int ?_, F.out.1⟩
  unfold checkCame
  rw [He.out, if_neg (by rw [HE.out]; simp)]
 ·
  have hz : (firstE [checkLineup l, withinE slot 1 9, whenE (decide (256 < (n : Int))) 5] != 0) = true := by simpa using hE
  have HE := Lib.hid hE; clear hE
  go_enter Tryz.func66, Tryz.ntmps66
  go_wp2_with (first
   | (refine wpList_load_row rfl 33 _ rfl w.heap.size rfl 33 A (0, 0) _ Hbk.out Tryz.underlying33 rfl Hi.out ?_)
   | (go_at_call 109; refine (checkLineup_any l Hl.out A HA.out _).mono ?_; rintro e w1 ⟨rfl, hb1⟩)
   | (go_at_call 95; refine (ninth_any _ _).mono ?_; rintro e w' ⟨rfl, rfl⟩)
   | (go_at_call 68; refine (when_any _ _ _).mono ?_; rintro e w' ⟨rfl, rfl⟩)
   | (go_at_call 89; refine (first3 _ _ _ _ _ _ _ (by exact heap_alloc_new _ _)).mono ?_; rintro e w' ⟨rfl, rfl⟩))
  go_ret
  exact ⟨ret_int (by unfold checkCame; rw [He.out, if_pos HE.out]), bt_alloc (bt_trans HB.out hb1) _⟩
end Go.Proofs.YtmagppkclnebjaaGreatDoor

set_option linter.unusedSimpArgs false
namespace Go.Proofs.YtmagppkclnebjaaGreatDoor
open Go.RowKit
open L

def L.Dev.val (d : Dev) : Array Value := #[.int .i64 d.idx, .string d.proper, .string d.came, .string d.next]
def L.deviateR (X : LU) (slot : Int) (came : List Str) : Dev × Int :=
 if checkCame X slot came ≠ 0 then (Dev.zero, checkCame X slot came)
 else match devL X 0 (slot - 1).toNat came with | some d => (d, 0) | none => (Dev.zero, 7)
def L.improperR (X : LU) (slot : Int) (came : List Str) : List Int × Int :=
 if checkCame X slot came ≠ 0 then ([], checkCame X slot came) else (impL X 0 (X.b.getD (slot - 1).toNat .empty) came, 0)
theorem checkCame_zero {X : LU} {slot : Int} {came : List Str} (h : checkCame X slot came = 0) : checkLineup X = 0 ∧ (1 ≤ slot ∧ slot ≤ 9) ∧ came.length ≤ 256 ∧ ∀ s ∈ came, s ∈ X.b := by
 unfold checkCame at h
 split at h
 ·
  contradiction
 ·
  rename_i h0
  obtain ⟨h1, h2, h3⟩ := firstE3 (by simpa [checkCameE] using h0)
  refine ⟨h1, withinE_zero h2, ?_, fun s hs => ?_⟩
  ·
   by_cases hl : came.length ≤ 256
   ·
    exact hl
   ·
    rw [whenE, if_pos (by simp; omega)] at h3; cases h3
  ·
   by_cases hm : s ∈ X.b
   ·
    exact hm
   ·
    rw [whenE, if_pos (by rw [List.any_eq_true]; exact ⟨s, hs, by simpa using hm⟩)] at h; cases h
theorem when_still (b : Bool) (e : Int) (w : World) : Calls Tryz.prog 68 #[.bool b, .int .i64 e] w fun x w' => x = .returned (.int .i64 (whenE b e)) ∧ w' = w := (when_any b e w).mono fun _ _ ⟨h1, h2⟩ => ⟨h1, h2.symm⟩
theorem info29 : (Tryz.prog.info? 29).map (·.size) = some 4 := by kernel_rfl

set_option maxHeartbeats 4000000 in
set_option maxRecDepth 100000 in
theorem deviate_any (l : LU) (hl : l.ok) (A : Array Value) (hA : A = l.cells.toArray) (slot : Int) (came : List Str) (C : Option Addr) (n c : Nat) (hn : came.length = n) (hle : n ≤ 1000000) (w : World) (hc : Rd w C (came.map .string)) :
 Calls Tryz.prog 14 #[.agg A, .int .i64 slot, .slice C n c] w fun x w' => x = .returned (.tuple #[.agg (deviateR l slot came).1.val, .int .i64 (deviateR l slot came).2]) ∧ Below w.heap.size w w' := by
 have hB := bt_alloc (bt_new w (.cells A 33)) (.cells #[.int .i64 0, .string { data := #[] }, .string { data := #[] }, .string { data := #[] }] 29)
 have hbk : Bk ((w.alloc (.cells A 33)).alloc (.cells #[.int .i64 0, .string { data := #[] }, .string { data := #[] }, .string { data := #[] }] 29)) w.heap.size 33 A := (Bk.new _ _ _).alloc _
 have hbr : Bk ((w.alloc (.cells A 33)).alloc (.cells #[.int .i64 0, .string { data := #[] }, .string { data := #[] }, .string { data := #[] }] 29)) (w.heap.size + 1) 29 #[.int .i64 0, .string { data := #[] }, .string { data := #[] }, .string { data := #[] }] := by
  have := Bk.new (w.alloc (.cells A 33)) 29 #[.int .i64 0, .string { data := #[] }, .string { data := #[] }, .string { data := #[] }]
  rwa [World.size_alloc] at this
 have hs0 : ((w.alloc (.cells A 33)).alloc (.cells #[.int .i64 0, .string { data := #[] }, .string { data := #[] }, .string { data := #[] }] 29)).heap.size = w.heap.size + 2 := by simp
 have Hi := Lib.hid (show (Tryz.prog.info? 33).map (·.size) = some A.size by rw [info33, hA, LU.size18 l hl])
 have hcall := checkCame_any l hl A hA slot came C n c hn (by omega) ((w.alloc (.cells A 33)).alloc (.cells #[.int .i64 0, .string { data := #[] }, .string { data := #[] }, .string { data := #[] }] 29)) (hc.below hB)
 have Hl := Lib.hid hl; have HA := Lib.hid hA; have Hn := Lib.hid hn; have Hbk := Lib.hid hbk; have Hbr := Lib.hid hbr; have HB := Lib.hid hB; have Hc := Lib.hid hc; have Hcall := Lib.hid hcall; have Hs0 := Lib.hid hs0
 clear hl hA hn hbk hbr hB hc hcall hs0
 by_cases hE : checkCame l slot came = 0
 ·
  obtain ⟨_, ⟨hs1, hs9⟩, h256, _⟩ := checkCame_zero hE
  obtain ⟨i0, hi0, rfl⟩ : ∃ i0 : Nat, i0 < 9 ∧ slot = (i0 : Int) + 1 := ⟨(slot - 1).toNat, by omega, by omega⟩
  have hR : deviateR l ((i0 : Int) + 1) came = match devL l 0 i0 came with | some d => (d, 0) | none => (Dev.zero, 7) := by
   unfold deviateR
   rw [if_neg (by rw [hE]; simp), show ((i0 : Int) + 1 - 1).toNat = i0 by omega]
  have HR := Lib.hid hR; clear hR
  rw [hE] at Hcall
  have q1 : IntKind.i64.wrap ((i0 : Int) + 1 - 1) = (i0 : Int) := by rw [IntWalk.i64_in _ (by omega)]; omega
  have q2 : (0 : Int) ≤ (i0 : Int) := by omega
  have q3 : (i0 : Int) < 9 := by omega
  clear hE hs1 hs9
  go_enter Tryz.func14, Tryz.ntmps14
  go_wp2
  go_step3
  go_upto_region 5 with (first
   | (refine wpList_load_row rfl 33 _ rfl w.heap.size rfl 33 A (0, 0) _ Hbk.out Tryz.underlying33 rfl Hi.out ?_)
   | (go_at_call 66; refine Hcall.out.mono ?_; rintro e w1 ⟨rfl, hb1⟩))
  have F : Hid (Below w.heap.size w (w1.alloc (.cells #[.int .i64 0, .string { data := #[] }, .string { data := #[] }, .string { data := #[] }] 29)) ∧
   Bk (w1.alloc (.cells #[.int .i64 0, .string { data := #[] }, .string { data := #[] }, .string { data := #[] }] 29)) w.heap.size 33 l.cells.toArray ∧
   Bk (w1.alloc (.cells #[.int .i64 0, .string { data := #[] }, .string { data := #[] }, .string { data := #[] }] 29)) (w.heap.size + 1) 29 #[.int .i64 0, .string { data := #[] }, .string { data := #[] }, .string { data := #[] }] ∧
   Bk (w1.alloc (.cells #[.int .i64 0, .string { data := #[] }, .string { data := #[] }, .string { data := #[] }] 29)) w1.heap.size 29 #[.int .i64 0, .string { data := #[] }, .string { data := #[] }, .string { data := #[] }] ∧ w.heap.size + 1 < w1.heap.size) := by
   have hz := hb1.size
   rw [Hs0.out] at hz
   exact ⟨bt_alloc (bt_trans HB.out hb1) _, by rw [← HA.out]; exact (Hbk.out.below hb1 Hbk.out.lt).alloc _, (Hbr.out.below hb1 Hbr.out.lt).alloc _, Bk.new _ _ _, by omega⟩
  clear hb1
  generalize (w1.alloc (.cells #[.int .i64 0, .string { data := #[] }, .string { data := #[] }, .string { data := #[] }] 29)) = W1 at F ⊢
  generalize w1.heap.size = D at F ⊢
  have c0 := LU.cell_b Hl.out F.out.2.1 i0 hi0
  generalize hp0 : l.b.getD i0 .empty = p0 at c0
  have Hp0 := Lib.hid hp0; clear hp0
  go_upto_region 6 with fail
  clear c0
  go_step3
  go_wp2
  go_loopw [10, 11, 12, 35] (fun f a b e wr => ∃ (k i : Nat), k ≤ n ∧ i < 9 ∧ f = .bool false ∧ a = .string (l.b.getD i .empty) ∧ b = .int .i64 i ∧ e = .int .i64 k ∧ Below w.heap.size w wr ∧ Bk wr w.heap.size 33 l.cells.toArray ∧ Bk wr (w.heap.size + 1) 29 #[.int .i64 0, .string { data := #[] }, .string { data := #[] }, .string { data := #[] }] ∧ Bk wr D 29 #[.int .i64 0, .string { data := #[] }, .string { data := #[] }, .string { data := #[] }] ∧ devL l 0 i0 came = devL l k i (came.drop k)) (fun _ _ _ e _ => n - (intOf e).toNat)
  case atStart => exact ⟨0, i0, by omega, hi0, rfl, by rw [Hp0.out], rfl, rfl, F.out.1, F.out.2.1, F.out.2.2.1, F.out.2.2.2.1, by simp⟩
  case round =>
   obtain ⟨k, i, hk, hi9, rfl, rfl, rfl, rfl, hb, hbk, hbr, hbd, hdv⟩ := hrel
   have hDw : w.heap.size + 1 < D := F.out.2.2.2.2
   clear F
   have Hb := Lib.hid hb; have Hbk := Lib.hid hbk; have Hbr := Lib.hid hbr; have Hbd := Lib.hid hbd; have Hdv := Lib.hid hdv
   clear hb hbk hbr hbd hdv
   have Hi2 := Lib.hid (show (Tryz.prog.info? 33).map (·.size) = some l.cells.toArray.size by rw [info33, LU.size18 l Hl.out])
   generalize hpp : l.b.getD i .empty = pp
   have Hpp := Lib.hid hpp; clear hpp
   by_cases hkn : k < n
   ·
    obtain ⟨b, off, rfl, hc1⟩ := (Hc.out.below Hb.out).str (k := k) (by rw [Hn.out]; exact hkn)
    have hdr : came.drop k = came.getD k .empty :: came.drop (k + 1) := by
     have hkl : k < came.length := by rw [Hn.out]; exact hkn
     rw [List.drop_eq_getElem_cons hkl]
     simp [List.getD, List.getElem?_eq_getElem hkl]
    generalize came.getD k .empty = s at hc1 hdr
    have Hdr := Lib.hid hdr; clear hdr
    obtain ⟨j, hj, hj9⟩ : ∃ j : Nat, (i + 1) % 9 = j ∧ j < 9 := ⟨_, rfl, by omega⟩
    have hbh := fun W => behind_any l Hl.out l.cells.toArray rfl i hi9 W
    rw [hj] at hbh
    have Hbh := Lib.hid hbh; have Hj := Lib.hid hj; clear hbh hj
    generalize hnx : l.b.getD j .empty = nx at Hbh
    have Hnx := Lib.hid hnx; clear hnx
    by_cases hsp : s = pp
    ·
     have ht := tl_eq hsp
     have Hsp := Lib.hid hsp; clear hsp
     go_wp2_with (first
      | (refine wpList_load_row rfl 33 _ rfl w.heap.size rfl 33 l.cells.toArray (0, 0) _ Hbk.out Tryz.underlying33 rfl Hi2.out ?_)
      | (go_at_call 67; refine (Hbh.out _).mono ?_; rintro e w2 ⟨rfl, hb2⟩))
     go_roundw
     case rel =>
      refine ⟨k + 1, j, by omega, hj9, rfl, by rw [Hnx.out], rfl, by go_num, bt_trans Hb.out hb2, Hbk.out.below hb2 Hbk.out.lt, Hbr.out.below hb2 Hbr.out.lt, Hbd.out.below hb2 Hbd.out.lt, ?_⟩
      rw [Hdv.out, Hdr.out, devL, Hpp.out, if_neg (by rw [Hsp.out]; simp), Hj.out]
     case measure => simp [intOf]; omega
    ·
     have ht := tl_ne hsp
     have Hsp := Lib.hid hsp; clear hsp
     have hdev : devL l 0 i0 came = some ⟨k, pp, s, nx⟩ := by
      rw [Hdv.out, Hdr.out, devL, Hpp.out, if_pos Hsp.out, Hj.out, Hnx.out]
     have Hdev := Lib.hid hdev; clear hdev
     have Hi29 := Lib.hid (show (Tryz.prog.info? 29).map (·.size) = some (#[.int .i64 k, .string pp, .string s, .string nx] : Array Value).size by rw [info29]; rfl)
     have Hone : Hid ((#[.int .i64 k, .string pp, .string s, .string nx] : Array Value).all (·.oneCell') = true) := by show _ = _; simp [Value.oneCell']
     go_upto_region 14 with (first
      | (refine wpList_load_row rfl 33 _ rfl w.heap.size rfl 33 l.cells.toArray (0, 0) _ Hbk.out Tryz.underlying33 rfl Hi2.out ?_)
      | (go_at_call 67; refine (Hbh.out _).mono ?_; rintro e w2 ⟨rfl, hb2⟩)
      | (refine wpList_store_mid rfl 29 (.tmp 9) (.tmp 53) rfl D 0 #[.int .i64 k, .string pp, .string s, .string nx] rfl rfl ((Hbd.out.below hb2 Hbd.out.lt).there 4 (by simp)) Hi29.out Hone.out ?_))
     have F5 : Hid (Below w.heap.size w (w2.setCells D 0 (#[.int .i64 k, .string pp, .string s, .string nx] : Array Value).toList) ∧ Bk (w2.setCells D 0 (#[.int .i64 k, .string pp, .string s, .string nx] : Array Value).toList) (w.heap.size + 1) 29 #[.int .i64 0, .string { data := #[] }, .string { data := #[] }, .string { data := #[] }] ∧
      Bk (w2.setCells D 0 (#[.int .i64 k, .string pp, .string s, .string nx] : Array Value).toList) D 29 #[.int .i64 k, .string pp, .string s, .string nx]) :=
      ⟨below_sets (by omega) (bt_trans Hb.out hb2) _ _, Bk.setsFar (by omega) _ _ (Hbr.out.below hb2 Hbr.out.lt), (Hbd.out.below hb2 Hbd.out.lt).fill _ rfl⟩
     clear hb2 Hb Hbk Hbr Hbd
     generalize w2.setCells D 0 (#[.int .i64 k, .string pp, .string s, .string nx] : Array Value).toList = W5 at F5 ⊢
     have d0 : W5.cell? ⟨D, 0, none⟩ = some (.int .i64 k) := by rw [F5.out.2.2.cell]; rfl
     have d1 : W5.cell? ⟨D, 1, none⟩ = some (.string pp) := by rw [F5.out.2.2.cell]; rfl
     have d2 : W5.cell? ⟨D, 2, none⟩ = some (.string s) := by rw [F5.out.2.2.cell]; rfl
     have d3 : W5.cell? ⟨D, 3, none⟩ = some (.string nx) := by rw [F5.out.2.2.cell]; rfl
     refine wp_region_still_tail 4 (by kernel_rfl) (by kernel_rfl) ?_
     simp only [List.take_succ_cons, List.take_zero, List.drop_succ_cons, List.drop_zero]
     still_step
     still_step
     still_step
     still_call (when_still _ _ _)
     refine wpStill_nil ?_
     change wpList _ _ _ _ _ W5.drew
     have F6 : Hid (Below w.heap.size w W5.drew ∧ Bk W5.drew (w.heap.size + 1) 29 #[.int .i64 0, .string { data := #[] }, .string { data := #[] }, .string { data := #[] }]) := ⟨bt_drew F5.out.1, F5.out.2.1.drew⟩
     clear F5 d0 d1 d2 d3
     generalize W5.drew = W6 at F6 ⊢
     go_wp2_with (first
      | (go_at_call 68; refine (when_any _ _ _).mono ?_; rintro e w' ⟨rfl, rfl⟩)
      | (refine wp_store_mid 29 (.tmp 6) (.tmp 57) rfl (w.heap.size + 1) 0 #[.int .i64 k, .string pp, .string s, .string nx] rfl rfl (F6.out.2.there 4 (by simp)) Hi29.out Hone.out ?_)
      | (refine wpList_store_mid rfl 29 (.tmp 6) (.tmp 57) rfl (w.heap.size + 1) 0 #[.int .i64 k, .string pp, .string s, .string nx] rfl rfl (F6.out.2.there 4 (by simp)) Hi29.out Hone.out ?_))
     rw [Exit.noGoto_ret]
     refine bodyPost_ret (results_cell_row2 rfl _ _ (w.heap.size + 1) 29 #[.int .i64 k, .string pp, .string s, .string nx] _ rfl (F6.out.2.fill _ rfl) Tryz.underlying29 rfl Hi29.out) rfl ?_
     refine ⟨by rw [HR.out, Hdev.out]; rfl, below_sets (by omega) F6.out.1 _ _⟩
   ·
    obtain rfl : k = n := by omega
    obtain ⟨wo, hwo⟩ : ∃ wo : World, wo = wr := ⟨_, rfl⟩
    rw [← hwo] at Hb Hbk Hbr Hbd ⊢
    clear hwo
    have Hi29 := Lib.hid (show (Tryz.prog.info? 29).map (·.size) = some (#[.int .i64 0, .string { data := #[] }, .string { data := #[] }, .string { data := #[] }] : Array Value).size by rw [info29]; rfl)
    have Hone : Hid ((#[.int .i64 0, .string { data := #[] }, .string { data := #[] }, .string { data := #[] }] : Array Value).all (·.oneCell') = true) := by show _ = _; simp [Value.oneCell']
    have hdev : devL l 0 i0 came = none := by
     rw [Hdv.out, List.drop_of_length_le (by rw [Hn.out]; exact Nat.le_refl _), devL]
    have Hdev := Lib.hid hdev; clear hdev
    have d0 : wo.cell? ⟨D, 0, none⟩ = some (.int .i64 0) := by rw [Hbd.out.cell]; rfl
    have d1 : wo.cell? ⟨D, 1, none⟩ = some (.string { data := #[] }) := by rw [Hbd.out.cell]; rfl
    have d2 : wo.cell? ⟨D, 2, none⟩ = some (.string { data := #[] }) := by rw [Hbd.out.cell]; rfl
    have d3 : wo.cell? ⟨D, 3, none⟩ = some (.string { data := #[] }) := by rw [Hbd.out.cell]; rfl
    go_upto_region 14 with fail
    refine wp_region_still_tail 4 (by kernel_rfl) (by kernel_rfl) ?_
    simp only [List.take_succ_cons, List.take_zero, List.drop_succ_cons, List.drop_zero]
    still_step
    still_step
    still_step
    still_call (when_still _ _ _)
    refine wpStill_nil ?_
    change wpList _ _ _ _ _ wo.drew
    have F6 : Hid (Below w.heap.size w wo.drew ∧ Bk wo.drew (w.heap.size + 1) 29 #[.int .i64 0, .string { data := #[] }, .string { data := #[] }, .string { data := #[] }]) := ⟨bt_drew Hb.out, Hbr.out.drew⟩
    clear Hb Hbk Hbr Hbd d0 d1 d2 d3
    generalize wo.drew = W6 at F6 ⊢
    go_wp2_with (first
     | (go_at_call 68; refine (when_any _ _ _).mono ?_; rintro e w' ⟨rfl, rfl⟩)
     | (refine wp_store_mid 29 (.tmp 6) (.tmp 57) rfl (w.heap.size + 1) 0 #[.int .i64 0, .string { data := #[] }, .string { data := #[] }, .string { data := #[] }] rfl rfl (F6.out.2.there 4 (by simp)) Hi29.out Hone.out ?_)
     | (refine wpList_store_mid rfl 29 (.tmp 6) (.tmp 57) rfl (w.heap.size + 1) 0 #[.int .i64 0, .string { data := #[] }, .string { data := #[] }, .string { data := #[] }] rfl rfl (F6.out.2.there 4 (by simp)) Hi29.out Hone.out ?_))
    rw [Exit.noGoto_ret]
    refine bodyPost_ret (results_cell_row2 rfl _ _ (w.heap.size + 1) 29 #[.int .i64 0, .string { data := #[] }, .string { data := #[] }, .string { data := #[] }] _ rfl (F6.out.2.fill _ rfl) Tryz.underlying29 rfl Hi29.out) rfl ?_
    refine ⟨by rw [HR.out, Hdev.out]; rfl, below_sets (by omega) F6.out.1 _ _⟩
 ·
  have hz : (checkCame l slot came != 0) = true := by simpa using hE
  have HE := Lib.hid hE; clear hE
  have Hi29 := Lib.hid (show (Tryz.prog.info? 29).map (·.size) = some (#[.int .i64 0, .string { data := #[] }, .string { data := #[] }, .string { data := #[] }] : Array Value).size by rw [info29]; rfl)
  have Hone : Hid ((#[.int .i64 0, .string { data := #[] }, .string { data := #[] }, .string { data := #[] }] : Array Value).all (·.oneCell') = true) := by show _ = _; simp [Value.oneCell']
  go_enter Tryz.func14, Tryz.ntmps14
  go_wp2
  go_step3
  go_wp2_with (first
   | (refine wpList_load_row rfl 33 _ rfl w.heap.size rfl 33 A (0, 0) _ Hbk.out Tryz.underlying33 rfl Hi.out ?_)
   | (go_at_call 66; refine Hcall.out.mono ?_; rintro e w1 ⟨rfl, hb1⟩)
   | (refine wpList_store_mid rfl 29 (.tmp 6) (.tmp 23) rfl (w.heap.size + 1) 0 #[.int .i64 0, .string { data := #[] }, .string { data := #[] }, .string { data := #[] }] rfl rfl ((Hbr.out.below hb1 Hbr.out.lt).there 4 (by simp)) Hi29.out Hone.out ?_))
  rw [Exit.noGoto_ret]
  refine bodyPost_ret (results_cell_row2 rfl _ _ (w.heap.size + 1) 29 #[.int .i64 0, .string { data := #[] }, .string { data := #[] }, .string { data := #[] }] _ rfl ((Hbr.out.below hb1 Hbr.out.lt).fill _ rfl) Tryz.underlying29 rfl Hi29.out) rfl ?_
  refine ⟨by unfold deviateR; rw [if_pos HE.out]; rfl, below_sets (by omega) (bt_trans HB.out hb1) _ _⟩
end Go.Proofs.YtmagppkclnebjaaGreatDoor
