/- The reference: Print. -/
import Derived.Test.YtmagppkclnebjaaGreatDoorO2
import Derived.Test.YtmagppkclnebjaaGreatDoorZ3
import Derived.Test.YtmagppkclnebjaaGreatDoorH4
import Derived.BigQuiet
set_option linter.unusedVariables false
set_option linter.unusedSimpArgs false
set_option linter.unusedSimpArgs false
set_option linter.unusedVariables false
namespace Go.Proofs.YtmagppkclnebjaaGreatDoor
open Go.RowKit
open L

theorem refText_int (n : Int) (h0 : 0 ≤ n) (hn : n < 1000000000) (w : World) : Calls Tryz.prog 86 #[.int .i64 n] w fun x w' => x = .returned (.string (decS n)) ∧ w = w' := by
 obtain ⟨m, rfl⟩ : ∃ m : Nat, n = m := ⟨n.toNat, by omega⟩
 exact refText_any m (by omega) w
theorem decS_size {n : Int} (h0 : 0 ≤ n) (h : n ≤ 999) : (decS n).size ≤ 3 := by
 have := dec_len n h
 rw [Go.Lib.size_eq]
 unfold decS
 simpa using this
/-- the text of the first i slots, of the first k changes -/
def preS (t : Tms) (i : Nat) : List UInt8 := ((List.range i).map fun k => slotB (cOf t k) ++ [10]).flatten
def preC (l : List Chg) (k : Nat) : List UInt8 := ((l.take k).map fun d => chgB d ++ [10]).flatten
theorem preS_succ (t : Tms) (i : Nat) : preS t (i + 1) = preS t i ++ (slotB (cOf t i) ++ [10]) := by
 unfold preS; rw [List.range_succ, List.map_append, List.flatten_append]; simp
theorem preC_succ (l : List Chg) (k : Nat) (hk : k < l.length) : preC l (k + 1) = preC l k ++ (chgB (l.getD k noChg) ++ [10]) := by
 unfold preC; rw [List.take_succ_eq_append_getElem hk, List.map_append, List.flatten_append]; simp [List.getD, List.getElem?_eq_getElem hk]
theorem pre_all (t : Tms) (l : List Chg) : preS t 18 ++ preC l l.length = printD t l := by
 unfold preS preC printD bodies
 rw [List.take_length, List.map_append, List.flatten_append, List.map_map, List.map_map]; rfl
theorem slotB_eq (d : Chg) : slotB d = (decS d.side).data.toList ++ [32] ++ (decS d.slot).data.toList ++ [32] ++ d.name.data.toList ++ [32] ++ (decS d.pos).data.toList := by
 unfold slotB bodyW slotW
 simp only [List.map_cons, List.map_nil, join_cc, Go.Lib.join_one]
 simp
theorem chgB_eq (d : Chg) : chgB d = [97, 116, 32] ++ (decS d.play).data.toList ++ [32] ++ (decS d.side).data.toList ++ [32] ++ (decS d.slot).data.toList ++ [32] ++ d.name.data.toList ++ [32] ++ (decS d.pos).data.toList := by
 unfold chgB bodyW chgW
 simp only [List.map_cons, List.map_nil, join_cc, Go.Lib.join_one]
 simp [atW]
theorem mk1_data (l : List UInt8) : (ByteArray.mk l.toArray).data.toList = l := by simp

set_option maxHeartbeats 8000000 in
set_option maxRecDepth 100000 in
theorem refPrint_any (t : Tms) (ht : t.ok) (T : Array Value) (hT : T = t.cells.toArray) (l : List Chg) (A : Option Addr) (n c : Nat) (hn : l.length = n) (hcc : checkChanges t l = 0) (w : World) (hl : RdC w A l) :
 Calls Tryz.prog 27 #[.agg T, .slice A n c] w fun x w' => x = .returned (.string (printR t l)) ∧ Below w.heap.size w w' := by
 have F : Hid (Below w.heap.size w (w.alloc (.cells T 46)) ∧ Bk (w.alloc (.cells T 46)) w.heap.size 46 t.cells.toArray) := ⟨bt_new w _, by rw [← hT]; exact Bk.new w 46 T⟩
 have hfit := fit_of t ht (cc_parts hcc).1
 have Hck := Lib.hid (cc_parts hcc).2.2.1
 have h64 : n ≤ 64 := by have := (cc_parts hcc).2.1; omega
 have HC : Hid (∀ W (sd k : Nat), Bk W w.heap.size 46 t.cells.toArray → sd < 2 → k < 9 → W.cell? ⟨w.heap.size, sd * 18 + k, none⟩ = some (.string ((t.get sd).b.getD k .empty)) ∧ W.cell? ⟨w.heap.size, sd * 18 + 9 + k, none⟩ = some (.int .i64 ((t.get sd).p.getD k 0))) := fun W sd k h hs hk => by
  have hs' : (sd : Int) = 0 ∨ (sd : Int) = 1 := by omega
  have h1 := Tms.cell_b t ht sd hs' k hk
  have h2 := Tms.cell_p t ht sd hs' k hk
  constructor
  ·
   rw [h.cell, List.getElem?_toArray]; simpa using h1
  ·
   rw [h.cell, List.getElem?_toArray]; simpa using h2
 have HX : Hid (∀ i : Nat, i < 18 → ((t.get (i / 9 : Nat)).b.getD (i % 9) .empty).size ≤ 24 ∧ (1 ≤ (t.get (i / 9 : Nat)).p.getD (i % 9) 0 ∧ (t.get (i / 9 : Nat)).p.getD (i % 9) 0 ≤ 9) ∧ slotB (cOf t i) = slotB ⟨(i / 9 : Nat), 0, ((i % 9 : Nat) : Int) + 1, (t.get (i / 9 : Nat)).b.getD (i % 9) .empty, (t.get (i / 9 : Nat)).p.getD (i % 9) 0⟩) := fun i hi => by
  have hs : ((i / 9 : Nat) : Int) = 0 ∨ ((i / 9 : Nat) : Int) = 1 := by omega
  have h1 := hfit.name _ (((i % 9 : Nat) : Int) + 1) hs (by omega) (by omega)
  have h2 := hfit.pos _ (((i % 9 : Nat) : Int) + 1) hs (by omega) (by omega)
  have e : ((((i % 9 : Nat) : Int) + 1) - 1).toNat = i % 9 := by omega
  unfold LU.bat at h1
  unfold LU.at_ at h2
  rw [e] at h1 h2
  refine ⟨h1, h2, ?_⟩
  unfold cOf c18 nOf qOf LU.bat LU.at_
  rw [e]
 have HR : Hid (∀ y : Str, y.data.toList = printD t l → y = printR t l) := fun y hy => by
  apply str_ext
  unfold printR
  rw [if_neg (by rw [hcc]; simp), printL_eq, hy]
 have HQ : Hid (printD t l = preS t 18 ++ preC l l.length) := by show _ = _; rw [pre_all]
 have Hn := Lib.hid hn; have Hl := Lib.hid hl
 clear hT ht hn hl hfit hcc
 go_enter Tryz.func27, Tryz.ntmps27
 go_upto_region 3 with fail
 generalize (w.alloc (.cells T 46)) = W0 at F ⊢
 go_loopw [5, 6] (fun v i wr => ∃ (k : Nat) (x : Str), k ≤ 18 ∧ i = .int .i64 k ∧ v = .string x ∧ x.data.toList = preS t k ∧ x.size ≤ 100 * k ∧ Below w.heap.size w wr ∧ Bk wr w.heap.size 46 t.cells.toArray) (fun _ i _ => 18 - (intOf i).toNat)
 case atStart => exact ⟨0, .empty, by omega, rfl, rfl, rfl, by decide, F.out.1, F.out.2⟩
 case round =>
  clear F
  obtain ⟨k, x, hk, rfl, rfl, hx, hxs, hb, hbk⟩ := hrel
  have Hx := Lib.hid hx
  have F : Hid (Below w.heap.size w wr ∧ Bk wr w.heap.size 46 t.cells.toArray) := ⟨hb, hbk⟩
  clear hx hb hbk
  by_cases hk18 : k < 18
  ·
   have hsd : k / 9 < 2 := by omega
   have hsl : k % 9 < 9 := by omega
   obtain ⟨x1, ⟨x2, x2'⟩, x3⟩ := HX.out k hk18
   obtain ⟨c1, c2⟩ := HC.out wr (k / 9) (k % 9) F.out.2 hsd hsl
   have q1 : (k : Int).tdiv 9 = ((k / 9 : Nat) : Int) := by rw [Int.tdiv_eq_ediv_of_nonneg (by omega)]; omega
   have q2 : (k : Int).tmod 9 = ((k % 9 : Nat) : Int) := by rw [Int.tmod_eq_emod_of_nonneg (by omega)]; omega
   have hps := preS_succ t k
   rw [x3, slotB_eq] at hps
   clear x3
   simp only at hps
   generalize (t.get (k / 9 : Nat)).b.getD (k % 9) .empty = nm at *
   generalize (t.get (k / 9 : Nat)).p.getD (k % 9) 0 = ps at *
   generalize k / 9 = sd at *
   generalize k % 9 = sl at *
   have T0 := fun W => refText_int (sd : Int) (by omega) (by omega) W
   have T1 := fun W => refText_int ((sl : Int) + 1) (by omega) (by omega) W
   have T2 := fun W => refText_int ps (by omega) (by omega) W
   have z0 := decS_size (n := (sd : Int)) (by omega) (by omega)
   have z1 := decS_size (n := (sl : Int) + 1) (by omega) (by omega)
   have z2 := decS_size (n := ps) (by omega) (by omega)
   generalize decS (sd : Int) = a0 at T0 z0 hps
   generalize decS ((sl : Int) + 1) = a1 at T1 z1 hps
   generalize decS ps = a2 at T2 z2 hps
   have H0 := Lib.hid T0; have H1 := Lib.hid T1; have H2 := Lib.hid T2; have Hps := Lib.hid hps
   clear T0 T1 T2 hps
   have p1 : (sd : Int) < 2 := by omega
   have w1 : IntKind.i64.wrap ((sl : Int) + 1) = (sl : Int) + 1 := IntWalk.i64_in _ (by omega)
   have p2 : (sl : Int) < 9 := by omega
   have p3 : (0 : Int) ≤ (sd : Int) := by omega
   have p4 : (0 : Int) ≤ (sl : Int) := by omega
   have y1 : ¬ 9223372036854775807 < x.size + a0.size := by omega
   have y2 : ¬ 9223372036854775807 < x.size + a0.size + 1 := by omega
   have y3 : ¬ 9223372036854775807 < x.size + a0.size + 1 + a1.size := by omega
   have y4 : ¬ 9223372036854775807 < x.size + a0.size + 1 + a1.size + 1 := by omega
   have y5 : ¬ 9223372036854775807 < x.size + a0.size + 1 + a1.size + 1 + nm.size := by omega
   have y6 : ¬ 9223372036854775807 < x.size + a0.size + 1 + a1.size + 1 + nm.size + 1 := by omega
   have y7 : ¬ 9223372036854775807 < x.size + a0.size + 1 + a1.size + 1 + nm.size + 1 + a2.size := by omega
   have y8 : ¬ 9223372036854775807 < x.size + a0.size + 1 + a1.size + 1 + nm.size + 1 + a2.size + 1 := by omega
   have hS0 : wr.drew.cell? ⟨w.heap.size, sd * 18 + sl, none⟩ = some (.string nm) ∧ wr.drew.cell? ⟨w.heap.size, sd * 18 + 9 + sl, none⟩ = some (.int .i64 ps) := ⟨c1, c2⟩
   clear c1 c2
   go_upto_region 6 with fail
   refine wp_region_held_drew (S := (fun X => X.cell? ⟨w.heap.size, sd * 18 + sl, none⟩ = some (.string nm) ∧ X.cell? ⟨w.heap.size, sd * 18 + 9 + sl, none⟩ = some (.int .i64 ps))) (by kernel_rfl) (hS0) (fun hHeld => ?_)
   refine tkE (i := 0) rfl ?_
   refine tkE (i := 1) rfl ?_
   refine tkE (i := 5) rfl ?_
   refine tkE (i := 6) rfl ?_
   refine tkE (i := 10) rfl ?_
   refine tkE (i := 11) rfl ?_
   refine tkE (i := 12) rfl ?_
   refine tkE (i := 13) rfl ?_
   refine tkE (i := 14) rfl ?_
   refine tkE (i := 15) rfl ?_
   refine tkE (i := 18) rfl ?_
   refine tkE (i := 19) rfl ?_
   refine tkE (i := 20) rfl ?_
   refine tkE (i := 21) rfl ?_
   refine tkE (i := 22) rfl ?_
   refine tkE (i := 23) rfl ?_
   refine rdE (i := 2) rfl (fun K hK => ?_)
   go_simp
   (go_at_call 86; (with_reducible refine (H0.out _).mono ?_); rintro e w' ⟨rfl, rfl⟩)
   go_wp2_with fail
   refine onE hK (hHeld) (fun hHeld => ?_)
   clear hK K
   refine tkE (i := 3) rfl ?_
   refine tkE (i := 4) rfl ?_
   refine rdE (i := 7) rfl (fun K hK => ?_)
   go_simp
   (go_at_call 86; (with_reducible refine (H1.out _).mono ?_); rintro e w' ⟨rfl, rfl⟩)
   go_wp2_with fail
   refine onE hK (hHeld) (fun hHeld => ?_)
   clear hK K
   refine tkE (i := 8) rfl ?_
   refine tkE (i := 9) rfl ?_
   refine tkE (i := 16) rfl ?_
   refine tkE (i := 17) rfl ?_
   refine rdE (i := 24) rfl (fun K hK => ?_)
   go_simp
   (go_at_call 86; (with_reducible refine (H2.out _).mono ?_); rintro e w' ⟨rfl, rfl⟩)
   go_wp2_with fail
   refine onE hK (hHeld) (fun hHeld => ?_)
   clear hK K
   refine tkE (i := 25) rfl ?_
   refine tkE (i := 26) rfl ?_
   refine tkE (i := 27) rfl ?_
   refine wpAnyH_done (by kernel_rfl) ?_ _
   go_wp2_with fail
   go_roundw
   case rel =>
    refine ⟨k + 1, _, by omega, by go_num, rfl, ?_, ?_, bt_drew F.out.1, F.out.2.drew⟩
    ·
     rw [Hps.out, ← Hx.out]
     simp only [app_data, List.append_assoc]
    ·
     simp only [ByteArray.size_append]
     have e1 : (ByteArray.mk #[32]).size = 1 := rfl
     have e2 : (ByteArray.mk #[10]).size = 1 := rfl
     rw [e1, e2]
     omega
   case measure => simp [intOf]; omega
  ·
   have e18 : k = 18 := by omega
   have Fb := Lib.hid F.out.1
   have hxs2 : x.size ≤ 1800 := by omega
   have hnk : ¬ (k : Int) < 18 := by omega
   rw [e18] at Hx
   clear F HC HX hk hk18 hxs e18
   generalize preS t 18 = P18 at Hx HQ
   go_upto_region 8 with fail
   go_loopw [5, 9] (fun v i wr => ∃ (k : Nat) (x : Str), k ≤ n ∧ i = .int .i64 k ∧ v = .string x ∧ x.data.toList = P18 ++ preC l k ∧ x.size ≤ 1800 + 100 * k ∧ Below w.heap.size w wr) (fun _ i _ => n - (intOf i).toNat)
   case atStart => exact ⟨0, x, by omega, rfl, rfl, by rw [Hx.out]; simp [preC], by omega, Fb.out⟩
   case round =>
    clear Fb hxs2 Hx hnk
    obtain ⟨k, y, hk, rfl, rfl, hy, hys, hb⟩ := hrel
    have Hy := Lib.hid hy; have Hb := Lib.hid hb
    clear hy hb
    by_cases hkn : k < n
    ·
     obtain ⟨b, off, rfl, hc⟩ := Hl.out k (by rw [Hn.out]; exact hkn)
     have hb0 : b < w.heap.size := World.block_lt_of_cell? w ⟨b, off + k * 5 + 0, none⟩ (u := .int .i64 (l.getD k noChg).side) (by rw [hc 0 (by omega)]; rfl)
     have hcell : ∀ j, j < 5 → wr.cell? ⟨b, off + k * 5 + j, none⟩ = (l.getD k noChg).val[j]? := fun j hj => by
      rw [Hb.out.cell (p := ⟨b, off + k * 5 + j, none⟩) hb0]; exact hc j hj
     have hpc := preC_succ l k (by rw [Hn.out]; exact hkn)
     have hmem : l.getD k noChg ∈ l := by
      have hkl : k < l.length := by rw [Hn.out]; exact hkn
      simp [List.getD, List.getElem?_eq_getElem hkl]
     rw [chgB_eq] at hpc
     generalize l.getD k noChg = d at hcell hpc hmem
     obtain ⟨v0, v1, v2, v3, v4⟩ := checkC_zero (Hck.out d hmem)
     have hnm := isName_size v4
     obtain ⟨ds, dp, dl, dn, dx⟩ := d
     simp only at hpc v0 v1 v2 v3 hnm
     have c0 : wr.cell? ⟨b, off + k * 5, none⟩ = some (.int .i64 ds) := hcell 0 (by omega)
     have c1 : wr.cell? ⟨b, off + k * 5 + 1, none⟩ = some (.int .i64 dp) := hcell 1 (by omega)
     have c2 : wr.cell? ⟨b, off + k * 5 + 2, none⟩ = some (.int .i64 dl) := hcell 2 (by omega)
     have c3 : wr.cell? ⟨b, off + k * 5 + 3, none⟩ = some (.string dn) := hcell 3 (by omega)
     have c4 : wr.cell? ⟨b, off + k * 5 + 4, none⟩ = some (.int .i64 dx) := hcell 4 (by omega)
     have T0 := fun W => refText_int dp (by omega) (by omega) W
     have T1 := fun W => refText_int ds (by omega) (by omega) W
     have T2 := fun W => refText_int dl (by omega) (by omega) W
     have T3 := fun W => refText_int dx (by omega) (by omega) W
     have z0 := decS_size (n := dp) (by omega) (by omega)
     have z1 := decS_size (n := ds) (by omega) (by omega)
     have z2 := decS_size (n := dl) (by omega) (by omega)
     have z3 := decS_size (n := dx) (by omega) (by omega)
     generalize decS dp = a0 at T0 z0 hpc
     generalize decS ds = a1 at T1 z1 hpc
     generalize decS dl = a2 at T2 z2 hpc
     generalize decS dx = a3 at T3 z3 hpc
     have H0 := Lib.hid T0; have H1 := Lib.hid T1; have H2 := Lib.hid T2; have H3 := Lib.hid T3; have Hpc := Lib.hid hpc
     clear T0 T1 T2 T3 hpc hc hcell v0 v1 v2 v3 v4 hmem
     go_upto_region 11 with fail
     have F0 : Hid (Below w.heap.size w (wr.alloc (.cells #[.int .i64 ds, .int .i64 dp, .int .i64 dl, .string dn, .int .i64 dx] 144)) ∧ Bk (wr.alloc (.cells #[.int .i64 ds, .int .i64 dp, .int .i64 dl, .string dn, .int .i64 dx] 144)) wr.heap.size 144 #[.int .i64 ds, .int .i64 dp, .int .i64 dl, .string dn, .int .i64 dx]) := ⟨bt_alloc Hb.out _, Bk.new wr 144 _⟩
     clear c0 c1 c2 c3 c4 Hb
     generalize (wr.alloc (.cells #[.int .i64 ds, .int .i64 dp, .int .i64 dl, .string dn, .int .i64 dx] 144)) = W1 at F0 ⊢
     generalize wr.heap.size = bx at F0 ⊢
     have hS0 : W1.drew.cell? ⟨bx, 0, none⟩ = some (.int .i64 ds) ∧ W1.drew.cell? ⟨bx, 1, none⟩ = some (.int .i64 dp) ∧ W1.drew.cell? ⟨bx, 2, none⟩ = some (.int .i64 dl) ∧ W1.drew.cell? ⟨bx, 3, none⟩ = some (.string dn) ∧ W1.drew.cell? ⟨bx, 4, none⟩ = some (.int .i64 dx) := by
      have h := F0.out.2.drew
      refine ⟨?_, ?_, ?_, ?_, ?_⟩ <;> (rw [h.cell]; rfl)
     have y0 : ¬ 9223372036854775807 < y.size + 3 := by omega
     have y1 : ¬ 9223372036854775807 < y.size + 3 + a0.size := by omega
     have y2 : ¬ 9223372036854775807 < y.size + 3 + a0.size + 1 := by omega
     have y3 : ¬ 9223372036854775807 < y.size + 3 + a0.size + 1 + a1.size := by omega
     have y4 : ¬ 9223372036854775807 < y.size + 3 + a0.size + 1 + a1.size + 1 := by omega
     have y5 : ¬ 9223372036854775807 < y.size + 3 + a0.size + 1 + a1.size + 1 + a2.size := by omega
     have y6 : ¬ 9223372036854775807 < y.size + 3 + a0.size + 1 + a1.size + 1 + a2.size + 1 := by omega
     have y7 : ¬ 9223372036854775807 < y.size + 3 + a0.size + 1 + a1.size + 1 + a2.size + 1 + dn.size := by omega
     have y8 : ¬ 9223372036854775807 < y.size + 3 + a0.size + 1 + a1.size + 1 + a2.size + 1 + dn.size + 1 := by omega
     have y9 : ¬ 9223372036854775807 < y.size + 3 + a0.size + 1 + a1.size + 1 + a2.size + 1 + dn.size + 1 + a3.size := by omega
     have y10 : ¬ 9223372036854775807 < y.size + 3 + a0.size + 1 + a1.size + 1 + a2.size + 1 + dn.size + 1 + a3.size + 1 := by omega
     refine wp_region_held_drew (S := (fun X => X.cell? ⟨bx, 0, none⟩ = some (.int .i64 ds) ∧ X.cell? ⟨bx, 1, none⟩ = some (.int .i64 dp) ∧ X.cell? ⟨bx, 2, none⟩ = some (.int .i64 dl) ∧ X.cell? ⟨bx, 3, none⟩ = some (.string dn) ∧ X.cell? ⟨bx, 4, none⟩ = some (.int .i64 dx))) (by kernel_rfl) (hS0) (fun hHeld => ?_)
     refine tkE (i := 0) rfl ?_
     refine tkE (i := 1) rfl ?_
     refine tkE (i := 2) rfl ?_
     refine tkE (i := 3) rfl ?_
     refine tkE (i := 7) rfl ?_
     refine tkE (i := 8) rfl ?_
     refine tkE (i := 12) rfl ?_
     refine tkE (i := 13) rfl ?_
     refine tkE (i := 17) rfl ?_
     refine tkE (i := 18) rfl ?_
     refine tkE (i := 21) rfl ?_
     refine tkE (i := 22) rfl ?_
     refine rdE (i := 4) rfl (fun K hK => ?_)
     go_simp
     (go_at_call 86; (with_reducible refine (H0.out _).mono ?_); rintro e w' ⟨rfl, rfl⟩)
     go_wp2_with fail
     refine onE hK (hHeld) (fun hHeld => ?_)
     clear hK K
     refine tkE (i := 5) rfl ?_
     refine tkE (i := 6) rfl ?_
     refine rdE (i := 9) rfl (fun K hK => ?_)
     go_simp
     (go_at_call 86; (with_reducible refine (H1.out _).mono ?_); rintro e w' ⟨rfl, rfl⟩)
     go_wp2_with fail
     refine onE hK (hHeld) (fun hHeld => ?_)
     clear hK K
     refine tkE (i := 10) rfl ?_
     refine tkE (i := 11) rfl ?_
     refine rdE (i := 14) rfl (fun K hK => ?_)
     go_simp
     (go_at_call 86; (with_reducible refine (H2.out _).mono ?_); rintro e w' ⟨rfl, rfl⟩)
     go_wp2_with fail
     refine onE hK (hHeld) (fun hHeld => ?_)
     clear hK K
     refine tkE (i := 15) rfl ?_
     refine tkE (i := 16) rfl ?_
     refine tkE (i := 19) rfl ?_
     refine tkE (i := 20) rfl ?_
     refine rdE (i := 23) rfl (fun K hK => ?_)
     go_simp
     (go_at_call 86; (with_reducible refine (H3.out _).mono ?_); rintro e w' ⟨rfl, rfl⟩)
     go_wp2_with fail
     refine onE hK (hHeld) (fun hHeld => ?_)
     clear hK K
     refine tkE (i := 24) rfl ?_
     refine tkE (i := 25) rfl ?_
     refine tkE (i := 26) rfl ?_
     refine wpAnyH_done (by kernel_rfl) ?_ _
     go_wp2_with fail
     go_roundw
     case rel =>
      refine ⟨k + 1, _, by omega, by go_num, rfl, ?_, ?_, bt_drew F0.out.1⟩
      ·
       rw [Hpc.out, ← List.append_assoc, ← Hy.out]
       simp only [app_data, List.append_assoc]
      ·
       simp only [ByteArray.size_append]
       have e1 : (ByteArray.mk #[32]).size = 1 := rfl
       have e2 : (ByteArray.mk #[10]).size = 1 := rfl
       have e3 : (ByteArray.mk #[97, 116, 32]).size = 3 := rfl
       rw [e1, e2, e3]
       omega
     case measure => simp [intOf]; omega
    ·
     obtain rfl : k = n := by omega
     have HE : Hid (y = printR t l) := by
      show _ = _
      apply HR.out
      rw [Hy.out, HQ.out, Hn.out]
     clear HR HQ Hy
     go_wp2
     go_ret
     exact ⟨ret_str (by rw [HE.out]), Hb.out⟩
end Go.Proofs.YtmagppkclnebjaaGreatDoor
