/- lineup.Improper: the indices of all names that came up out of turn. -/
import Derived.Test.YtmagppkclnebjaaGreatDoorQg
import Derived.Test.YtmagppkclnebjaaGreatDoorA13
set_option linter.unusedVariables false
set_option linter.unusedSimpArgs false
set_option linter.unusedSimpArgs false
namespace Go.Proofs.YtmagppkclnebjaaGreatDoor
open Go.RowKit
open L

theorem infoI : (Tryz.prog.info? 3).map (fun i => (i.zero, i.size, i.bytes)) = some (some (.int .i64 0), 1, 8) := by kernel_rfl
theorem idx_mem (l : LU) (hl : l.ok) (s : Str) (h : s ∈ l.b) : ∃ i : Nat, i < 9 ∧ idxF (fun y => decide (y = s)) l.b = (i : Int) ∧ behindOf l s = (i + 1) % 9 := by
 have h1 := idxF_nonneg (fun y => decide (y = s)) l.b
 rw [any_mem, show decide (s ∈ l.b) = true by simpa using h, decide_eq_true_eq] at h1
 have h2 := idxF_bd (fun y => decide (y = s)) l.b
 rw [hl.1] at h2
 refine ⟨(idxF (fun y => decide (y = s)) l.b).toNat, by omega, by omega, ?_⟩
 unfold behindOf
 congr 1
 omega
theorem rangeAt_below {W W' : World} {g : Nat} {xs : List Value} (h : W.rangeAt g 0 xs) (hb : Below W.heap.size W W') (hg : g < W.heap.size) : W'.rangeAt g 0 xs := fun j v hv => by
 rw [hb.cell (p := ⟨g, 0 + j, none⟩) hg]; exact h j v hv
theorem LU.bkRange {W : World} {g : Nat} {ty : TypeId} {l : LU} (h : Bk W g ty l.cells.toArray) : W.rangeAt g 0 l.cells := fun j v hv => by
 have hj := (List.getElem?_eq_some_iff.1 hv).1
 rw [LU.bkCells h j hj]; exact hv
theorem Rd.lu_range {W : World} {g : Nat} {l : LU} (h : W.rangeAt g 0 l.cells) : Rd W (some ⟨g, 0, none⟩) (l.b.map .string) :=
 Rd.lu_b (o := 0) fun j hj => by rw [List.getElem?_eq_getElem hj]; exact h j _ (List.getElem?_eq_getElem hj)

set_option maxHeartbeats 8000000 in
set_option maxRecDepth 100000 in
theorem improper_any (l : LU) (hl : l.ok) (A : Array Value) (hA : A = l.cells.toArray) (slot : Int) (came : List Str) (C : Option Addr) (n c : Nat) (hn : came.length = n) (hle : n ≤ 1000000) (w : World) (hc : Rd w C (came.map .string)) :
 Calls Tryz.prog 15 #[.agg A, .int .i64 slot, .slice C n c] w fun x w' => (∃ v, x = .returned (.tuple #[v, .int .i64 (improperR l slot came).2]) ∧ SlK 1 w' v (improperR l slot came).1.length ((improperR l slot came).1.map (.int .i64))) ∧ Below w.heap.size w w' := by
 obtain ⟨i0, hi, hz0, hz1, hz2⟩ := info_parts infoI
 have F : Hid (Below w.heap.size w (w.alloc (.cells A 33)) ∧ Bk (w.alloc (.cells A 33)) w.heap.size 33 l.cells.toArray) := by
  refine ⟨bt_new w _, by rw [← hA]; exact Bk.new w 33 A⟩
 have Hi := Lib.hid (show (Tryz.prog.info? 33).map (·.size) = some l.cells.toArray.size by rw [info33, LU.size18 l hl])
 have Hi' := Lib.hid (show (Tryz.prog.info? 33).map (·.size) = some l.cells.length by rw [info33, LU.cells_len l hl])
 have hcall := fun W (hW : Below w.heap.size w W) => checkCame_any l hl l.cells.toArray rfl slot came C n c hn (by omega) W (hc.below hW)
 have Hl := Lib.hid hl; have Hn := Lib.hid hn; have Hc := Lib.hid hc; have Hcall := Lib.hid hcall
 clear hl hA hn hc hcall
 by_cases hE : checkCame l slot came = 0
 ·
  obtain ⟨h01, ⟨hs1, hs9⟩, h256, hmem⟩ := checkCame_zero hE
  obtain ⟨q0, hq0, rfl⟩ : ∃ q0 : Nat, q0 < 9 ∧ slot = (q0 : Int) + 1 := ⟨(slot - 1).toNat, by omega, by omega⟩
  have hR : improperR l ((q0 : Int) + 1) came = (impL l 0 (l.b.getD q0 .empty) came, 0) := by
   unfold improperR
   rw [if_neg (by rw [hE]; simp), show ((q0 : Int) + 1 - 1).toNat = q0 by omega]
  have Hr := Lib.hid hR; have Hmem := Lib.hid hmem; clear hR hmem h01
  rw [hE] at Hcall
  have hn256 : n ≤ 256 := by have := Hn.out; omega
  have q1 : IntKind.i64.wrap ((q0 : Int) + 1 - 1) = (q0 : Int) := by rw [IntWalk.i64_in _ (by omega)]; omega
  have q2 : (0 : Int) ≤ (q0 : Int) := by omega
  have q3 : (q0 : Int) < 9 := by omega
  clear hE hs1 hs9 h256
  go_enter Tryz.func15, Tryz.ntmps15
  go_upto_region 1 with fail
  generalize (w.alloc (.cells A 33)) = W0 at F ⊢
  go_upto_region 5 with (first
   | (refine wpList_load_row rfl 33 _ rfl w.heap.size rfl 33 l.cells.toArray (0, 0) _ F.out.2 Tryz.underlying33 rfl Hi.out ?_)
   | (go_at_call 66; refine (Hcall.out _ F.out.1).mono ?_; rintro e w1 ⟨rfl, hb1⟩))
  have F1 : Hid (Below w.heap.size w w1 ∧ Bk w1 w.heap.size 33 l.cells.toArray) := ⟨bt_trans F.out.1 hb1, F.out.2.below hb1 F.out.2.lt⟩
  clear F hb1
  have c0 := LU.cell_b Hl.out F1.out.2 q0 hq0
  go_upto_region 6 with fail
  clear c0
  go_wp2
  go_loopw [9, 10, 27] (fun a b e wr => ∃ (k : Nat) (out : List Int) (pp : Str), k ≤ n ∧ b = .string pp ∧ e = .int .i64 k ∧ Below w.heap.size w wr ∧ Bk wr w.heap.size 33 l.cells.toArray ∧ wr.ownsRow (w.heap.size + 1) 3 1 a out.length (out.map (.int .i64)) ∧ out.length ≤ k ∧ impL l 0 (l.b.getD q0 .empty) came = out ++ impL l k pp (came.drop k)) (fun _ _ e _ => n - (intOf e).toNat)
  case atStart => exact ⟨0, [], _, by omega, rfl, rfl, F1.out.1, F1.out.2, World.ownsRow_nil _ _ _ _, by simp, by simp⟩
  case round =>
   obtain ⟨k, out, pp, hk, rfl, rfl, hb, hbk, how, hol, him⟩ := hrel
   clear F1
   have Hb := Lib.hid hb; have Hbk := Lib.hid hbk; have How := Lib.hid how; have Hol := Lib.hid hol; have Him := Lib.hid him
   clear hb hbk how hol him
   by_cases hkn : k < n
   ·
    obtain ⟨b, off, rfl, hc1⟩ := (Hc.out.below Hb.out).str (k := k) (by rw [Hn.out]; exact hkn)
    have hkl : k < came.length := by rw [Hn.out]; exact hkn
    have hdr : came.drop k = came.getD k .empty :: came.drop (k + 1) := by
     rw [List.drop_eq_getElem_cons hkl]
     simp [List.getD, List.getElem?_eq_getElem hkl]
    have hin : came.getD k .empty ∈ l.b := Hmem.out _ (by simp [List.getD, List.getElem?_eq_getElem hkl])
    generalize came.getD k .empty = s at hc1 hdr hin
    obtain ⟨i, hi9, hix, hbo⟩ := idx_mem l Hl.out s hin
    have Hdr := Lib.hid hdr; clear hdr hin hkl
    have hidx : ∀ W, W.rangeAt w.heap.size 0 l.cells → Calls Tryz.prog 69 #[.slice (some ⟨w.heap.size, 0, none⟩) 9 9, .string s] W fun x w' => x = .returned (.int .i64 i) ∧ W = w' := fun W hW => by
     rw [← hix]
     exact indexS_any l.b _ 9 9 s W Hl.out.1 (by omega) (Rd.lu_range hW)
    have hbeh := fun W => behind_any l Hl.out l.cells.toArray rfl i hi9 W
    rw [← hbo] at hbeh
    have Hidx := Lib.hid hidx; have Hbeh := Lib.hid hbeh; clear hidx hbeh hix hbo
    have hsl : ∀ W, (Instr.sliceAt 22 (.pointer (some ⟨w.heap.size, 0, none⟩)) none none none).run Tryz.prog W = .ok (.slice (some ⟨w.heap.size, 0, none⟩) 9 9) W := fun W =>
     run_slice_arr_all W 22 9 9 _ Tryz.underlying22 size9
    have hstep : impL l k pp (came.drop k) = (if s ≠ pp then [(k : Int)] else []) ++ impL l (k + 1) (l.b.getD (behindOf l s) .empty) (came.drop (k + 1)) := by rw [Hdr.out, impL]
    have Hstep := Lib.hid hstep; clear hstep
    by_cases hsp : s = pp
    ·
     have ht := tl_eq hsp
     have Hsp := Lib.hid hsp; clear hsp
     go_upto_region 11 with fail
     have F2 : Hid (Below w.heap.size w wr ∧ Bk wr w.heap.size 33 l.cells.toArray ∧ wr.ownsRow (w.heap.size + 1) 3 1 u9 out.length (out.map (.int .i64))) := ⟨Hb.out, Hbk.out, How.out⟩
     clear Hb Hbk How hc1
     refine wp_region_held_drew (S := fun W => W.rangeAt w.heap.size 0 l.cells) (by kernel_rfl) ((LU.bkRange F2.out.2.1 : World.rangeAt wr.drew w.heap.size 0 l.cells)) (fun hHeld => ?_)
     refine ldE (i := 0) rfl rfl rfl (l.cells) (fun W h => h) Tryz.underlying33 rfl (Hi'.out) ?_
     refine tkE (i := 1) rfl ?_
     refine tkE (i := 2) rfl ?_
     refine tkE (i := 3) rfl ?_
     refine rdE (i := 4) rfl (fun K hK => ?_)
     go_simp
     (go_at_call 69; refine (Hidx.out _ hHeld).mono ?_; rintro e w' ⟨rfl, rfl⟩)
     go_wp2_with fail
     refine onE hK (hHeld) (fun hHeld => ?_)
     clear hK K
     have hlt9 : w.heap.size < wr.drew.heap.size := F2.out.2.1.lt
     refine rdE (i := 5) rfl (fun K hK => ?_)
     go_simp
     (go_at_call 67; refine (Hbeh.out _).mono ?_; rintro e w7 ⟨rfl, hb7⟩)
     go_wp2_with fail
     refine onE hK (rangeAt_below hHeld hb7 hlt9) (fun hHeld => ?_)
     clear hK K
     refine tkE (i := 6) rfl ?_
     refine tkE (i := 7) rfl ?_
     refine tkE (i := 8) rfl ?_
     refine tkE (i := 9) rfl ?_
     refine wpAnyH_done (by kernel_rfl) ?_ _
     go_wp2
     go_roundw
     case rel =>
      refine ⟨k + 1, out, l.b.getD (behindOf l s) .empty, by omega, rfl, by go_num, bt_trans (bt_drew F2.out.1) hb7, F2.out.2.1.drew.below hb7 hlt9, (World.ownsRow.drew F2.out.2.2).kept (show World.grownBy _ w7 none from ⟨hb7.os, hb7.tape, hb7.output, hb7.size, fun i hi _ => hb7.block i hi⟩) (by cases hv : u9.ownBlock with | none => exact .inl rfl | some r => exact .inr (by simp)), by have := Hol.out; omega, ?_⟩
      rw [Him.out, Hstep.out, if_neg (by rw [Hsp.out]; simp)]; simp
     case measure => simp [intOf]; omega
    ·
     have ht := tl_ne hsp
     have Hsp := Lib.hid hsp; clear hsp
     have hcs := cell_one_new wr (.int .i64 (k : Int)) 3
     have hols : out.length + 1 ≤ 257 := by have := Hol.out; omega
     go_upto_region 11 with (first
      | (at_builtin; refine wpList_append_own _ rfl _ _ 34 rfl (w.heap.size + 1) 3 i0 (.int .i64 0) 1 8 Tryz.underlying34 hi hz0 hz1 hz2 rfl (by decide) _ _ _ rfl (How.out.alloc _) ⟨wr.heap.size, 0, none⟩ 1 1 [.int .i64 (k : Int)] rfl rfl hcs (by simp [Value.oneCell']) (by unfold maxLen; omega) (by omega) (by have := Hb.out.size; have := Hbk.out.lt; simp; omega) ?_; intro v' w5 hown' hgrow hnil))
     have hn1w : ∀ r, u9.ownBlock = some r → w.heap.size + 1 ≤ r := fun r e => (How.out.lt r e).1
     have F2 : Hid (Below w.heap.size w w5 ∧ Bk w5 w.heap.size 33 l.cells.toArray ∧ w5.ownsRow (w.heap.size + 1) 3 1 v' (out ++ [(k : Int)]).length ((out ++ [(k : Int)]).map (.int .i64))) := by
      refine ⟨(bt_alloc Hb.out _).grown hgrow (by have := Hb.out.size; simp; omega) (fun r e => by have := hn1w r e; omega), (hgrow.block _ (by have := Hbk.out.lt; simp; omega) (fun e => by have := hn1w _ e.symm; omega)).trans (Hbk.out.alloc _), by simpa using hown'⟩
     clear Hb Hbk How hgrow hown' hcs hc1
     refine wp_region_held_drew (S := fun W => W.rangeAt w.heap.size 0 l.cells) (by kernel_rfl) ((LU.bkRange F2.out.2.1 : World.rangeAt w5.drew w.heap.size 0 l.cells)) (fun hHeld => ?_)
     refine ldE (i := 0) rfl rfl rfl (l.cells) (fun W h => h) Tryz.underlying33 rfl (Hi'.out) ?_
     refine tkE (i := 1) rfl ?_
     refine tkE (i := 2) rfl ?_
     refine tkE (i := 3) rfl ?_
     refine rdE (i := 4) rfl (fun K hK => ?_)
     go_simp
     (go_at_call 69; refine (Hidx.out _ hHeld).mono ?_; rintro e w' ⟨rfl, rfl⟩)
     go_wp2_with fail
     refine onE hK (hHeld) (fun hHeld => ?_)
     clear hK K
     have hlt9 : w.heap.size < w5.drew.heap.size := F2.out.2.1.lt
     refine rdE (i := 5) rfl (fun K hK => ?_)
     go_simp
     (go_at_call 67; refine (Hbeh.out _).mono ?_; rintro e w7 ⟨rfl, hb7⟩)
     go_wp2_with fail
     refine onE hK (rangeAt_below hHeld hb7 hlt9) (fun hHeld => ?_)
     clear hK K
     refine tkE (i := 6) rfl ?_
     refine tkE (i := 7) rfl ?_
     refine tkE (i := 8) rfl ?_
     refine tkE (i := 9) rfl ?_
     refine wpAnyH_done (by kernel_rfl) ?_ _
     go_wp2
     go_roundw
     case rel =>
      refine ⟨k + 1, out ++ [(k : Int)], l.b.getD (behindOf l s) .empty, by omega, rfl, by go_num, bt_trans (bt_drew F2.out.1) hb7, F2.out.2.1.drew.below hb7 hlt9, (World.ownsRow.drew F2.out.2.2).kept (show World.grownBy _ w7 none from ⟨hb7.os, hb7.tape, hb7.output, hb7.size, fun i hi _ => hb7.block i hi⟩) (by cases hv : v'.ownBlock with | none => exact .inl rfl | some r => exact .inr (by simp)), by have := Hol.out; simp; omega, ?_⟩
      rw [Him.out, Hstep.out, if_pos Hsp.out]; simp
     case measure => simp [intOf]; omega
   ·
    obtain rfl : k = n := by omega
    have hgf : impL l 0 (l.b.getD q0 .empty) came = out := by rw [Him.out, List.drop_of_length_le (by rw [Hn.out]; exact Nat.le_refl _), impL, List.append_nil]
    have Hgf := Lib.hid hgf; clear hgf
    go_wp2
    go_ret2
    rw [Hr.out, Hgf.out]
    exact ⟨⟨_, rfl, SlK.of_own How.out⟩, Hb.out⟩
 ·
  have hz : (checkCame l slot came != 0) = true := by simpa using hE
  have HE := Lib.hid hE; clear hE
  go_enter Tryz.func15, Tryz.ntmps15
  go_upto_region 1 with fail
  generalize (w.alloc (.cells A 33)) = W0 at F ⊢
  go_wp2_with (first
   | (refine wpList_load_row rfl 33 _ rfl w.heap.size rfl 33 l.cells.toArray (0, 0) _ F.out.2 Tryz.underlying33 rfl Hi.out ?_)
   | (go_at_call 66; refine (Hcall.out _ F.out.1).mono ?_; rintro e w1 ⟨rfl, hb1⟩))
  go_ret2
  have hr : improperR l slot came = ([], checkCame l slot came) := by unfold improperR; rw [if_pos HE.out]
  rw [hr]
  exact ⟨⟨_, rfl, SlK.nil 1 _⟩, bt_trans F.out.1 hb1⟩
end Go.Proofs.YtmagppkclnebjaaGreatDoor
