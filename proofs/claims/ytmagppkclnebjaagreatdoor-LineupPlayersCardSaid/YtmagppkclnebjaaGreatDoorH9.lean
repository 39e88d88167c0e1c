/- The reference: Gone. -/
import Derived.Test.YtmagppkclnebjaaGreatDoorH3
import Derived.Test.YtmagppkclnebjaaGreatDoorD0
import Derived.Deep.CutRange
set_option linter.unusedVariables false
set_option linter.unusedSimpArgs false
set_option linter.unusedSimpArgs false
set_option linter.unusedVariables false
namespace Go.Proofs.YtmagppkclnebjaaGreatDoor
open Go.RowKit
open L

theorem refGone_cons (t : Tms) (d : Chg) (r : List Chg) (p side : Int) : refGoneL t (d :: r) p side = (if d.play ≤ p ∧ d.side = side ∧ (t.get d.side).bat d.slot ≠ d.name then [(t.get d.side).bat d.slot] else []) ++ refGoneL (t.made d) r p side := rfl
theorem drop_at (l : List Chg) (k : Nat) (h : k < l.length) : l.drop k = l.getD k noChg :: l.drop (k + 1) := by
 rw [List.drop_eq_getElem_cons h]
 simp [List.getD, List.getElem?_eq_getElem h]
theorem getD_inC (l : List Chg) (k : Nat) (h : k < l.length) : l.getD k noChg ∈ l := by
 simp [List.getD, List.getElem?_eq_getElem h]

set_option maxHeartbeats 4000000 in
set_option maxRecDepth 100000 in
theorem refGone_any (t : Tms) (ht : t.ok) (T : Array Value) (hT : T = t.cells.toArray) (l : List Chg) (A : Option Addr) (n c : Nat) (hn : l.length = n) (hle : n ≤ 1000) (hok : ∀ d ∈ l, d.okS) (p side : Int) (w : World) (hl : RdC w A l) :
 Calls Tryz.prog 53 #[.agg T, .slice A n c, .int .i64 p, .int .i64 side] w fun x w' => (∃ B d, x = .returned (.slice B (refGoneL t l p side).length d) ∧ Rd w' B ((refGoneL t l p side).map .string)) ∧ Below w.heap.size w w' := by
 obtain ⟨i0, hi, hz0, hz1, hz2⟩ := info_parts infoS
 have F : Hid (Below w.heap.size w (w.alloc (.cells T 46)) ∧ Bk (w.alloc (.cells T 46)) w.heap.size 46 t.cells.toArray) := ⟨bt_new w _, by rw [← hT]; exact Bk.new w 46 T⟩
 have Ht := Lib.hid ht; have Hn := Lib.hid hn; have Hl := Lib.hid hl; have Hok := Lib.hid hok
 clear hT ht hn hl hok
 go_enter Tryz.func53, Tryz.ntmps53
 go_upto_region 1 with fail
 generalize (w.alloc (.cells T 46)) = W0 at F ⊢
 go_upto_region 3 with fail
 go_loopw [9, 10] (fun v i wr => ∃ (k : Nat) (T1 : Tms) (out : List Str), k ≤ n ∧ i = .int .i64 k ∧ T1.ok ∧ Below w.heap.size w wr ∧ Bk wr w.heap.size 46 T1.cells.toArray ∧ wr.ownsRow (w.heap.size + 1) 9 1 v out.length (out.map .string) ∧ refGoneL t l p side = out ++ refGoneL T1 (l.drop k) p side ∧ out.length ≤ k) (fun _ i _ => n - (intOf i).toNat)
 case atStart => exact ⟨0, t, [], Nat.zero_le _, rfl, Ht.out, F.out.1, F.out.2, World.ownsRow_nil _ _ _ _, by simp, Nat.le_refl _⟩
 case round =>
  clear F
  obtain ⟨k, T1, out, hk, rfl, ht1, hb, hbk, hown, hr, hol⟩ := hrel
  have F1 := Lib.hid (show Below w.heap.size w wr ∧ Bk wr w.heap.size 46 T1.cells.toArray ∧ wr.ownsRow (w.heap.size + 1) 9 1 u9 out.length (out.map .string) from ⟨hb, hbk, hown⟩)
  have Ht1 := Lib.hid ht1; have Hr := Lib.hid hr
  clear hb hbk hown ht1 hr
  by_cases hkn : k < n
  ·
   obtain ⟨b, off, rfl, hc⟩ := Hl.out k (by rw [Hn.out]; exact hkn)
   have hb0 : b < w.heap.size := World.block_lt_of_cell? w ⟨b, off + k * 5 + 0, none⟩ (u := .int .i64 (l.getD k noChg).side) (by rw [hc 0 (by omega)]; rfl)
   have hdr := drop_at l k (by rw [Hn.out]; exact hkn)
   have hdo := Hok.out _ (getD_inC l k (by rw [Hn.out]; exact hkn))
   replace hc : ∀ j, j < 5 → w.cell? ⟨b, off + k * 5 + j, none⟩ = (l.getD k noChg).val[j]? := hc
   generalize l.getD k noChg = d at hc hdr hdo
   rw [hdr, refGone_cons] at Hr
   have Hc := Lib.hid hc; have Hdo := Lib.hid hdo
   clear hc hdr
   obtain ⟨hsd, hs1, hs9⟩ := hdo
   obtain ⟨j, hj9, hsl⟩ : ∃ j : Nat, j < 9 ∧ d.slot = (j : Int) + 1 := ⟨(d.slot - 1).toNat, by omega, by omega⟩
   have s0 : 0 ≤ d.side := by rcases hsd with e | e <;> omega
   have s1 : d.side < 2 := by rcases hsd with e | e <;> omega
   have hbt : (T1.get d.side).bat d.slot = (T1.get d.side).b.getD j .empty := by
    unfold LU.bat
    rw [hsl, show ((j : Int) + 1 - 1).toNat = j by omega]
   have HD : Hid (∀ X, Below w.heap.size w X → X.cell? ⟨b, off + k * 5, none⟩ = some (.int .i64 d.side) ∧ X.cell? ⟨b, off + k * 5 + 1, none⟩ = some (.int .i64 d.play) ∧ X.cell? ⟨b, off + k * 5 + 2, none⟩ = some (.int .i64 ((j : Int) + 1)) ∧ X.cell? ⟨b, off + k * 5 + 3, none⟩ = some (.string d.name)) := fun X h => by
    refine ⟨(h.cell (p := ⟨b, off + k * 5, none⟩) hb0).trans (Hc.out 0 (by omega)), (h.cell (p := ⟨b, off + k * 5 + 1, none⟩) hb0).trans (Hc.out 1 (by omega)), (h.cell (p := ⟨b, off + k * 5 + 2, none⟩) hb0).trans ?_, (h.cell (p := ⟨b, off + k * 5 + 3, none⟩) hb0).trans (Hc.out 3 (by omega))⟩
    rw [← hsl]; exact Hc.out 2 (by omega)
   have hct : wr.drew.cell? ⟨w.heap.size, d.side.toNat * 18 + j, none⟩ = some (.string ((T1.get d.side).b.getD j .empty)) := by
    rw [F1.out.2.1.drew.cell, List.getElem?_toArray]; exact Tms.cell_b T1 Ht1.out d.side hsd j hj9
   rw [hbt] at Hr
   generalize (T1.get d.side).b.getD j .empty = bn at Hr hct
   have w1 : IntKind.i64.wrap ((j : Int) + 1 - 1) = (j : Int) := by rw [IntWalk.i64_in _ (by omega)]; omega
   have w2 : IntKind.i64.wrap (j : Int) = (j : Int) := IntWalk.i64_in _ (by omega)
   have j0 : (0 : Int) ≤ (j : Int) := by omega
   have j9 : (j : Int) < 9 := by omega
   have q0 : (0 : Int) ≤ (k : Int) := by omega
   have q1 : (k : Int) < (n : Int) := by omega
   clear hsd hs1 hs9 hbt hsl
   go_upto_region 5 with fail
   go_cut [11] from 12 to 67 (fun s11 w2 => s11 = .string bn ∧ w2 = wr.drew)
   case first =>
    have hcs := HD.out _ (bt_drew F1.out.1)
    refine wp_region_held_drew (S := fun W => (W.cell? ⟨b, off + k * 5, none⟩ = some (.int .i64 d.side) ∧ W.cell? ⟨b, off + k * 5 + 2, none⟩ = some (.int .i64 ((j : Int) + 1))) ∧ W.cell? ⟨w.heap.size, d.side.toNat * 18 + j, none⟩ = some (.string bn)) (by kernel_rfl) (⟨⟨hcs.1, hcs.2.2.1⟩, hct⟩) (fun hHeld => ?_)
    refine tkE (i := 0) rfl ?_
    refine tkE (i := 1) rfl ?_
    refine tkE (i := 2) rfl ?_
    refine tkE (i := 3) rfl ?_
    refine tkE (i := 4) rfl ?_
    refine tkE (i := 5) rfl ?_
    refine tkE (i := 6) rfl ?_
    refine tkE (i := 7) rfl ?_
    refine tkE (i := 8) rfl ?_
    refine tkE (i := 9) rfl ?_
    refine tkE (i := 10) rfl ?_
    refine tkE (i := 11) rfl ?_
    refine tkE (i := 12) rfl ?_
    refine tkE (i := 13) rfl ?_
    refine tkE (i := 14) rfl ?_
    refine tkE (i := 15) rfl ?_
    refine wpAnyH_done (by kernel_rfl) ?_ _
    go_wp2_with fail
    go_meet
    exact ⟨rfl, rfl⟩
   case rest =>
    obtain ⟨rfl, hwc⟩ := hcut
    have F2 : Hid (Below w.heap.size w wc ∧ Bk wc w.heap.size 46 T1.cells.toArray ∧ wc.ownsRow (w.heap.size + 1) 9 1 u9 out.length (out.map .string)) := by
     rw [hwc]; exact ⟨bt_drew F1.out.1, F1.out.2.1.drew, F1.out.2.2⟩
    clear F1 hwc hct j0 j9 w1 w2 s0 s1
    generalize wc = W1 at F2 ⊢
    go_upto_region 6 with fail
    have Hmade : Hid (∀ W, Calls Tryz.prog 84 #[.agg T1.cells.toArray, .agg d.val.toList.toArray] W fun x w' => x = .returned (.agg (T1.made d).cells.toArray) ∧ Below W.heap.size W w') := fun W => by
     rw [Array.toArray_toList]; exact refMade_any T1 Ht1.out _ rfl d Hdo.out W
    have Hmok := Lib.hid (Tms.made_ok' T1 Ht1.out d)
    have Hone := Lib.hid (Tms.oneCell (T1.made d))
    have Hi := Lib.hid (size46' T1 Ht1.out)
    have Hi2 := Lib.hid (info46s (T1.made d).cells.toArray.size (Tms.size36 _ Hmok.out))
    have Hsz : Hid ((Tryz.prog.info? 144).map (·.size) = some d.val.toList.length) := size144D
    have r1 : (W1.drew).rangeAt w.heap.size 0 T1.cells := bkRangeT F2.out.2.1.drew
    have r2 : (W1.drew).rangeAt b (off + k * 5) d.val.toList := rdcRange Hc.out (bt_drew F2.out.1) hb0
    have hlw : w.heap.size < W1.heap.size := F2.out.2.1.lt
    have hbw : b < W1.heap.size := by omega
    have Hth : Hid (∀ W, Below W1.drew.heap.size W1.drew W → W.there w.heap.size 0 (T1.made d).cells.toArray.size) := fun W h => (F2.out.2.1.drew.below h hlw).there _ (by rw [Tms.size36 _ Hmok.out, Tms.size36 _ Ht1.out]; exact Nat.le_refl _)
    have Hr2 : Hid (∀ W, Below W1.drew.heap.size W1.drew W → W.rangeAt b (off + k * 5) d.val.toList) := fun W h => rdcRange Hc.out (bt_trans (bt_drew F2.out.1) h) hb0
    have Hend : Hid (∀ W, Below W1.drew.heap.size W1.drew W → Below w.heap.size w (W.setCells w.heap.size 0 (T1.made d).cells.toArray.toList) ∧ Bk (W.setCells w.heap.size 0 (T1.made d).cells.toArray.toList) w.heap.size 46 (T1.made d).cells.toArray ∧ (W.setCells w.heap.size 0 (T1.made d).cells.toArray.toList).ownsRow (w.heap.size + 1) 9 1 u9 out.length (out.map .string)) := fun W h =>
     ⟨below_sets (Nat.le_refl _) (bt_trans (bt_drew F2.out.1) h) _ _, (F2.out.2.1.drew.below h hlw).fill (T1.made d).cells.toArray (by rw [Tms.size36 _ Hmok.out, Tms.size36 _ Ht1.out]), own_setsFar (own_below (show W1.drew.ownsRow (w.heap.size + 1) 9 1 u9 out.length (out.map .string) from F2.out.2.2) h) (by omega) _ _⟩
    generalize hce : d.val.toList = ce at r2 Hmade Hsz Hr2
    generalize hcc : T1.cells = cc at r1 Hmade Hi F2
    generalize hmc : (T1.made d).cells = mc at Hmade Hone Hi2 Hth Hend
    have Hmc := Lib.hid hmc
    have Hfar : Hid (∀ W : World, W.rangeAt b (off + k * 5) ce → (W.setCells w.heap.size 0 mc.toArray.toList).rangeAt b (off + k * 5) ce) := fun W h => rangeAt_far (by omega) _ _ h
    clear hce hcc hmc F2
    go_cut [9] from 12 to 67 (fun s9 w2 => s9 = u9 ∧ Below w.heap.size w w2 ∧ Bk w2 w.heap.size 46 mc.toArray ∧ w2.ownsRow (w.heap.size + 1) 9 1 u9 out.length (out.map .string))
    case first =>
     refine wp_region_held_drew (S := (fun X => X.rangeAt b (off + k * 5) ce)) (by kernel_rfl) (r2) (fun hHeld => ?_)
     refine tkE (i := 1) rfl ?_
     refine tkE (i := 2) rfl ?_
     refine tkE (i := 3) rfl ?_
     refine ldE (i := 4) rfl rfl rfl (ce) (fun W h => h) Tryz.underlying144 rfl (Hsz.out) ?_
     refine rdE (i := 0) rfl (fun K hK => ?_)
     refine step_load rfl 46 _ rfl w.heap.size 0 rfl cc r1 _ Tryz.underlying46 rfl Hi.out ?_
     refine onE hK r2 (fun hHeld => ?_)
     clear hK K
     refine rdE (i := 5) rfl (fun K hK => ?_)
     go_simp
     (go_at_call 84; refine (Hmade.out _).mono ?_; rintro e w3 ⟨rfl, hb3⟩)
     go_wp2_with fail
     refine onE hK (Hr2.out _ hb3) (fun hHeld => ?_)
     clear hK K
     refine rdE (i := 6) rfl (fun K hK => ?_)
     refine step_store rfl 46 _ _ rfl w.heap.size 0 mc.toArray rfl rfl (Hth.out _ hb3) Hi2.out Hone.out ?_
     refine onE hK (Hfar.out _ (Hr2.out _ hb3)) (fun hHeld => ?_)
     clear hK K
     refine wpAnyH_done (by kernel_rfl) ?_ _
     have e1 := Hend.out _ hb3
     clear r1 r2 Hend Hth hHeld Hr2 Hfar
     go_wp2_with fail
     go_meet
     exact ⟨rfl, e1⟩
    case rest =>
     obtain ⟨rfl, hb2, hbk2, hown2⟩ := hcut
     have F3 := Lib.hid (And.intro hb2 (And.intro hbk2 hown2))
     clear hb2 hbk2 hown2 r1 r2 Hend Hth Hr2 Hfar Hmade Hone Hi Hi2 Hsz hlw hbw
     generalize wc = W2 at F3 ⊢
     obtain ⟨x0, x1, _, x3⟩ := HD.out _ F3.out.1
     by_cases hp : d.play ≤ p
     ·
      by_cases hs : d.side = side
      ·
       have z1 : (d.side == side) = true := by simpa using hs
       by_cases hn9 : bn = d.name
       ·
        have z2 : (bn != d.name) = false := by simpa using hn9
        have z3 := tl_eq hn9
        rw [if_neg (fun h => h.2.2 hn9), List.nil_append] at Hr
        clear hn9 hs
        go_wp2
        go_roundw
        case rel => exact ⟨k + 1, T1.made d, out, by omega, by go_num, Hmok.out, F3.out.1, by rw [Hmc.out]; exact F3.out.2.1, F3.out.2.2, Hr.out, by omega⟩
        case measure => simp [intOf]; omega
       ·
        have z2 : (bn != d.name) = true := by simpa using hn9
        have z3 := tl_ne hn9
        rw [if_pos ⟨hp, hs, hn9⟩, ← List.append_assoc] at Hr
        clear hn9 hs
        have hcs := cell_one_new W2 (.string bn) 9
        have hlt2 := F3.out.2.1.lt
        go_wp2_with (at_builtin; refine wpList_append_own _ rfl _ _ 26 rfl (w.heap.size + 1) 9 i0 (.string { data := #[] }) 1 16 Tryz.underlying26 hi hz0 hz1 hz2 rfl (by decide) _ _ _ rfl (F3.out.2.2.alloc _) ⟨W2.heap.size, 0, none⟩ 1 1 [.string bn] rfl rfl hcs (strs_oneCell [bn]) (by unfold maxLen; omega) (by omega) (by simp; omega) ?_; intro v' w5 hown' hgrow hnil)
        have F5 : Hid (Below w.heap.size w w5 ∧ Bk w5 w.heap.size 46 mc.toArray ∧ w5.ownsRow (w.heap.size + 1) 9 1 v' (out ++ [bn]).length ((out ++ [bn]).map .string)) := by
         refine ⟨(bt_alloc F3.out.1 _).grown hgrow (by simp; omega) (fun q e => by have := (F3.out.2.2.lt q e).1; omega), (hgrow.block _ (by simp; omega) (fun e => by have := (F3.out.2.2.lt _ e.symm).1; omega)).trans (F3.out.2.1.alloc _), by simpa using hown'⟩
        clear hown' hgrow hnil hcs F3
        go_roundw
        case rel => exact ⟨k + 1, T1.made d, out ++ [bn], by omega, by go_num, Hmok.out, F5.out.1, by rw [Hmc.out]; exact F5.out.2.1, F5.out.2.2, Hr.out, by simp; omega⟩
        case measure => simp [intOf]; omega
      ·
       have z1 : (d.side == side) = false := by simpa using hs
       rw [if_neg (fun h => hs h.2.1), List.nil_append] at Hr
       clear hs
       go_wp2
       go_roundw
       case rel => exact ⟨k + 1, T1.made d, out, by omega, by go_num, Hmok.out, F3.out.1, by rw [Hmc.out]; exact F3.out.2.1, F3.out.2.2, Hr.out, by omega⟩
       case measure => simp [intOf]; omega
     ·
      rw [if_neg (fun h => hp h.1), List.nil_append] at Hr
      go_wp2
      go_roundw
      case rel => exact ⟨k + 1, T1.made d, out, by omega, by go_num, Hmok.out, F3.out.1, by rw [Hmc.out]; exact F3.out.2.1, F3.out.2.2, Hr.out, by omega⟩
      case measure => simp [intOf]; omega
  ·
   obtain rfl : k = n := by omega
   have he : Hid (refGoneL t l p side = out) := by
    show _ = _
    rw [Hr.out, List.drop_of_length_le (by rw [Hn.out]; exact Nat.le_refl _)]; simp [refGoneL]
   obtain ⟨_, A7, c7, rfl, hr7⟩ := SlK.of_own F1.out.2.2
   go_wp2
   go_ret
   rw [he.out]
   exact ⟨⟨A7, c7, rfl, hr7⟩, F1.out.1⟩
end Go.Proofs.YtmagppkclnebjaaGreatDoor
