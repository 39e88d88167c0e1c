/- The reference: CheckChanges. -/
import Derived.Test.YtmagppkclnebjaaGreatDoorD0
import Derived.Deep.Cut
import Derived.Deep.CutRange
import Derived.Deep.AppendLies
set_option linter.unusedVariables false
set_option linter.unusedSimpArgs false
set_option linter.unusedSimpArgs false
set_option linter.unusedVariables false
namespace Go.Proofs.YtmagppkclnebjaaGreatDoor
open Go.RowKit
open L

set_option maxHeartbeats 8000000 in
set_option maxRecDepth 100000 in
theorem refCheck_any (t : Tms) (ht : t.ok) (T : Array Value) (hT : T = t.cells.toArray) (l : List Chg) (A : Option Addr) (n c : Nat) (hn : l.length = n) (hle : n ≤ 9223372036854775807) (hsz : ∀ s ∈ t.l0.b ++ t.l1.b, s.size ≤ 9223372036854775807) (hszl : ∀ d ∈ l, d.name.size ≤ 9223372036854775807) (w : World) (hl : RdC w A l) :
 Calls Tryz.prog 26 #[.agg T, .slice A n c] w fun x w' => x = .returned (.int .i64 (checkChanges t l)) ∧ Below w.heap.size w w' := by
 obtain ⟨i0, hi, hz0, hz1, hz2⟩ := info_parts infoS
 have F : Hid (Below w.heap.size w (w.alloc (.cells T 46)) ∧ Bk (w.alloc (.cells T 46)) w.heap.size 46 t.cells.toArray) := ⟨bt_new w _, by rw [← hT]; exact Bk.new w 46 T⟩
 have Hcc := Lib.hid (cc2_cases t l n hn)
 have H82 : Hid (∀ W, Calls Tryz.prog 82 #[.agg t.cells.toArray] W fun x w' => x = .returned (.int .i64 (checkTeams t)) ∧ Below W.heap.size W w') := fun W => refTeams_any t ht _ rfl hsz W
 have Hi46 := Lib.hid (info46s t.cells.toArray.size (Tms.size36 t ht))
 have Ht := Lib.hid ht; have Hn := Lib.hid hn; have Hl := Lib.hid hl; have Hszl := Lib.hid hszl
 clear hT ht hn hl hszl
 by_cases hct : checkTeams t = 0
 ·
  rw [hct] at H82
  rw [if_neg (by rw [hct]; simp)] at Hcc
  clear hct
  by_cases h64 : 64 < n
  ·
   rw [if_pos h64] at Hcc
   have h64' : (64 : Int) < (n : Int) := by omega
   clear h64
   go_enter Tryz.func26, Tryz.ntmps26
   go_upto_region 1 with fail
   generalize (w.alloc (.cells T 46)) = W0 at F ⊢
   go_wp2_with (first
    | (refine wpList_load_row rfl 46 _ rfl w.heap.size rfl 46 t.cells.toArray (0, 0) _ F.out.2 Tryz.underlying46 rfl Hi46.out ?_)
    | (go_at_call 82; refine (H82.out _).mono ?_; rintro e w1 ⟨rfl, hb1⟩))
   go_ret
   exact ⟨ret_int Hcc.out.symm, bt_trans F.out.1 hb1⟩
  ·
   rw [if_neg h64] at Hcc
   have h64' : ¬ (64 : Int) < (n : Int) := by omega
   have hn64 : n ≤ 64 := by omega
   clear h64
   go_enter Tryz.func26, Tryz.ntmps26
   go_upto_region 1 with fail
   generalize (w.alloc (.cells T 46)) = W0 at F ⊢
   go_upto_region 6 with (first
    | (refine wpList_load_row rfl 46 _ rfl w.heap.size rfl 46 t.cells.toArray (0, 0) _ F.out.2 Tryz.underlying46 rfl Hi46.out ?_)
    | (go_at_call 82; refine (H82.out _).mono ?_; rintro e w1 ⟨rfl, hb1⟩))
   have F1 : Hid (Below w.heap.size w w1 ∧ Bk w1 w.heap.size 46 t.cells.toArray) := ⟨bt_trans F.out.1 hb1, F.out.2.below hb1 F.out.2.lt⟩
   clear F hb1
   go_upto_region 8 with fail
   go_loopw [7, 6] (fun i v wr => ∃ k : Nat, k ≤ 9 ∧ i = .int .i64 k ∧ Below w.heap.size w wr ∧ Bk wr w.heap.size 46 t.cells.toArray ∧ wr.ownsRow (w.heap.size + 1) 9 1 v (2 * k) ((knR t k).map .string)) (fun i _ _ => 9 - (intOf i).toNat)
   case atStart => exact ⟨0, by omega, rfl, F1.out.1, F1.out.2, World.ownsRow_nil _ _ _ _⟩
   case round =>
    obtain ⟨k, hk, rfl, hb, hbk, how⟩ := hrel
    clear F1
    by_cases hk9 : k < 9
    ·
     obtain ⟨P, kP, hP, oP⟩ : ∃ P : World → Prop, Keep P ∧ P wr ∧ Hid (∀ X, P X → Below w.heap.size w X ∧ Bk X w.heap.size 46 t.cells.toArray ∧ X.ownsRow (w.heap.size + 1) 9 1 u6 (2 * k) ((knR t k).map .string)) := ⟨fun X => Below w.heap.size w X ∧ Bk X w.heap.size 46 t.cells.toArray ∧ X.ownsRow (w.heap.size + 1) 9 1 u6 (2 * k) ((knR t k).map .string), keep_and (keep_below w) (keep_and (keep_bk _ _ _) (keep_own _ _ _ _ _ _)), ⟨hb, hbk, how⟩, fun _ h => h⟩
     have hlt := hbk.lt
     clear hb hbk how
     have HC0 : Hid (∀ X, P X → X.cell? ⟨w.heap.size, k, none⟩ = some (.string (t.l0.b.getD k .empty)) ∧ X.cell? ⟨w.heap.size, 18 + k, none⟩ = some (.string (t.l1.b.getD k .empty))) := fun X h =>
      ⟨by rw [(oP.out X h).2.1.cell, List.getElem?_toArray]; simpa using Tms.cell_b0 t Ht.out k hk9, by rw [(oP.out X h).2.1.cell, List.getElem?_toArray]; exact Tms.cell_b1 t Ht.out k hk9⟩
     have Hks := Lib.hid (knR_succ t k)
     generalize t.l0.b.getD k .empty = s0 at HC0 Hks
     generalize t.l1.b.getD k .empty = s1 at HC0 Hks
     have q0 : (0 : Int) ≤ (k : Int) := by omega
     have q1 : (k : Int) < 9 := by omega
     go_upto_region 10 with fail
     have hPd : P wr.drew := kP _ _ hP (bt_drew (Below.refl _ wr))
     refine wp_region_held_drew (S := fun W => W.cell? ⟨w.heap.size, k, none⟩ = some (.string s0) ∧ W.cell? ⟨w.heap.size, 18 + k, none⟩ = some (.string s1)) (by kernel_rfl) (HC0.out _ hPd) (fun hHeld => ?_)
     refine tkE (i := 0) rfl ?_
     refine tkE (i := 1) rfl ?_
     refine tkE (i := 2) rfl ?_
     refine tkE (i := 3) rfl ?_
     refine tkE (i := 4) rfl ?_
     refine tkE (i := 5) rfl ?_
     refine tkE (i := 6) rfl ?_
     refine tkE (i := 7) rfl ?_
     refine tkE (i := 8) rfl ?_
     refine tkE (i := 9) rfl ?_
     refine tkE (i := 10) rfl ?_
     have hPn : P (wr.alloc (.cells #[.string s0, .string s1] 9)).drew := kP _ _ hP (bt_drew (bt_new wr _))
     have hcs : ∀ j u, [Value.string s0, Value.string s1][j]? = some u → (wr.alloc (.cells #[.string s0, .string s1] 9)).drew.cell? ((⟨wr.heap.size, 0, none⟩ : Addr).add j) = some u := fun j u hu => by
      rw [Addr.add_mid, (Bk.new wr 9 #[.string s0, .string s1]).drew.cell, Nat.zero_add]; simpa using hu
     refine rdE (i := 11) rfl (fun K hK => ?_)
     go_simp
     refine onE hK (HC0.out _ hPn) (fun hHeld => ?_)
     clear hK K
     clear hHeld
     refine rdE (i := 12) rfl (fun K hK => ?_)
     refine step_append_lies _ rfl _ _ 26 rfl (w.heap.size + 1) 9 i0 (.string { data := #[] }) 1 16 Tryz.underlying26 hi hz0 hz1 hz2 rfl (by decide) _ _ _ rfl ((oP.out _ hPn).2.2) ⟨wr.heap.size, 0, none⟩ 2 2 [.string s0, .string s1] rfl rfl hcs (strs_oneCell [s0, s1]) (by decide) (by unfold maxLen; omega) (by omega) (by simp; omega) _ rfl ?_
     intro g cap w5 hown' hgrow hat hlt5
     have hn1w : ∀ r, u6.ownBlock = some r → w.heap.size + 1 ≤ r := fun r e => ((oP.out _ hPn).2.2.lt r e).1
     have Fn : Hid (Below w.heap.size w w5 ∧ Bk w5 w.heap.size 46 t.cells.toArray) :=
      ⟨(oP.out _ hPn).1.grown hgrow (by simp; omega) (fun r e => by have := hn1w r e; omega), (hgrow.block _ (by simp; omega) (fun e => by have := hn1w _ e.symm; omega)).trans (oP.out _ hPn).2.1⟩
     have hh5 : w5.cell? ⟨w.heap.size, k, none⟩ = some (.string s0) ∧ w5.cell? ⟨w.heap.size, 18 + k, none⟩ = some (.string s1) := by
      rw [Fn.out.2.cell, Fn.out.2.cell, ← (oP.out _ hPn).2.1.cell k, ← (oP.out _ hPn).2.1.cell (18 + k)]
      exact HC0.out _ hPn
     refine onE hK hh5 (fun hHeld => ?_)
     clear hK K
     refine rdE (i := 13) rfl (fun K hK => ?_)
     go_simp
     refine onE hK (hHeld) (fun hHeld => ?_)
     clear hK K
     refine wpAnyH_done (by kernel_rfl) ?_ _
     clear hHeld hh5 hcs hPn hPd hgrow hat
     go_wp2
     go_roundw
     case rel =>
      refine ⟨k + 1, by omega, by go_num, Fn.out.1, Fn.out.2, ?_⟩
      rw [Hks.out, show 2 * (k + 1) = 2 * k + 2 by omega]
      simpa using hown'
     case measure => simp [intOf]; omega
    ·
     obtain rfl : k = 9 := by omega
     have hmm := fun s => knR_mem t Ht.out s
     have hkl := knR_len t 9
     have hcl : ccLoop t (t.l0.b ++ t.l1.b) none l = ccLoop t (knR t 9) (pv l 0) (l.drop 0) := ccLoop_known l t _ _ none (fun s => (hmm s).symm)
     generalize knR t 9 = K9 at how hkl hcl
     have Hcl := Lib.hid hcl; have Hkl := Lib.hid hkl
     clear hcl hkl hmm
     have F2 : Hid (Below w.heap.size w wr ∧ Bk wr w.heap.size 46 t.cells.toArray ∧ wr.ownsRow (w.heap.size + 1) 9 1 u6 18 (K9.map .string)) := ⟨hb, hbk, how⟩
     clear hb hbk how
     go_upto_region 12 with fail
     go_loopw [8, 6] (fun i v wr => ∃ (k : Nat) (T1 : Tms) (KL : List Str), k ≤ n ∧ i = .int .i64 k ∧ T1.ok ∧ Below w.heap.size w wr ∧ Bk wr w.heap.size 46 T1.cells.toArray ∧ wr.ownsRow (w.heap.size + 1) 9 1 v (18 + k) (KL.map .string) ∧ KL.length = 18 + k ∧ ccLoop t (t.l0.b ++ t.l1.b) none l = ccLoop T1 KL (pv l k) (l.drop k)) (fun i _ _ => n - (intOf i).toNat)
     case atStart => exact ⟨0, t, K9, by omega, rfl, Ht.out, F2.out.1, F2.out.2.1, F2.out.2.2, Hkl.out, Hcl.out⟩
     case round =>
      obtain ⟨k, T1, KL, hk, rfl, ht1, hb, hbk, how, hkl, hcc⟩ := hrel
      clear F2
      have Ht1 := Lib.hid ht1; have Hkl1 := Lib.hid hkl; have Hcc1 := Lib.hid (Hcc.out.trans hcc)
      clear ht1 hkl hcc
      by_cases hkn : k < n
      ·
       obtain ⟨b, off, rfl, hc⟩ := Hl.out k (by rw [Hn.out]; exact hkn)
       have hkl' : k < l.length := by rw [Hn.out]; exact hkn
       have hb0 : b < w.heap.size := World.block_lt_of_cell? w ⟨b, off + k * 5 + 0, none⟩ (u := .int .i64 (l.getD k ⟨0, 0, 0, .empty, 0⟩).side) (by rw [hc 0 (by omega)]; rfl)
       have hdr : l.drop k = l.getD k ⟨0, 0, 0, .empty, 0⟩ :: l.drop (k + 1) := by
        rw [List.drop_eq_getElem_cons hkl']
        simp [List.getD, List.getElem?_eq_getElem hkl']
       have hds := Hszl.out (l.getD k ⟨0, 0, 0, .empty, 0⟩) (by simp [List.getD, List.getElem?_eq_getElem hkl'])
       have hpv : pv l (k + 1) = some (l.getD k ⟨0, 0, 0, .empty, 0⟩) := by unfold pv; rw [if_neg (by omega)]; rfl
       have hcell : ∀ j, j < 5 → wr.cell? ⟨b, off + k * 5 + j, none⟩ = (l.getD k ⟨0, 0, 0, .empty, 0⟩).val[j]? := fun j hj => by
        rw [hb.cell (p := ⟨b, off + k * 5 + j, none⟩) hb0]; exact hc j hj
       generalize l.getD k ⟨0, 0, 0, .empty, 0⟩ = d at hc hcell hdr hds hpv
       have Hdr := Lib.hid hdr; have Hpv := Lib.hid hpv; have Hds := Lib.hid hds; clear hdr hpv hds hc hkl'
       have c0 : wr.cell? ⟨b, off + k * 5, none⟩ = some (.int .i64 d.side) := hcell 0 (by omega)
       have c1 : wr.cell? ⟨b, off + k * 5 + 1, none⟩ = some (.int .i64 d.play) := hcell 1 (by omega)
       have c2 : wr.cell? ⟨b, off + k * 5 + 2, none⟩ = some (.int .i64 d.slot) := hcell 2 (by omega)
       have c3 : wr.cell? ⟨b, off + k * 5 + 3, none⟩ = some (.string d.name) := hcell 3 (by omega)
       have c4 : wr.cell? ⟨b, off + k * 5 + 4, none⟩ = some (.int .i64 d.pos) := hcell 4 (by omega)
       clear hcell
       have q0 : (0 : Int) ≤ (k : Int) := by omega
       have q1 : (k : Int) < (n : Int) := by omega
       have hvown : ∀ r, u6.ownBlock = some r → w.heap.size + 1 ≤ r ∧ r ≠ wr.heap.size := fun r e => by have := how.lt r e; omega
       have hgw : w.heap.size < wr.heap.size := hbk.lt
       obtain ⟨P, kP, hP, oP⟩ : ∃ P : World → Prop, Keep P ∧ P (wr.alloc (.cells #[.int .i64 d.side, .int .i64 d.play, .int .i64 d.slot, .string d.name, .int .i64 d.pos] 144)) ∧ Hid (∀ X, P X → Below w.heap.size w X ∧ Bk X w.heap.size 46 T1.cells.toArray ∧ X.ownsRow (w.heap.size + 1) 9 1 u6 (18 + k) (KL.map .string) ∧ Bk X wr.heap.size 144 #[.int .i64 d.side, .int .i64 d.play, .int .i64 d.slot, .string d.name, .int .i64 d.pos]) := ⟨fun X => Below w.heap.size w X ∧ Bk X w.heap.size 46 T1.cells.toArray ∧ X.ownsRow (w.heap.size + 1) 9 1 u6 (18 + k) (KL.map .string) ∧ Bk X wr.heap.size 144 #[.int .i64 d.side, .int .i64 d.play, .int .i64 d.slot, .string d.name, .int .i64 d.pos], keep_and (keep_below w) (keep_and (keep_bk _ _ _) (keep_and (keep_own _ _ _ _ _ _) (keep_bk _ _ _))), ⟨bt_alloc hb _, hbk.alloc _, how.alloc _, Bk.new wr 144 _⟩, fun _ h => h⟩
       clear hb hbk how
       go_upto_region 15 with fail
       clear c0 c1 c2 c3 c4
       generalize (wr.alloc (.cells #[.int .i64 d.side, .int .i64 d.play, .int .i64 d.slot, .string d.name, .int .i64 d.pos] 144)) = W1 at hP ⊢
       generalize wr.heap.size = gc at hvown hgw oP ⊢
       have HX : Hid (∀ X, P X → X.cell? ⟨gc, 0, none⟩ = some (.int .i64 d.side) ∧ X.cell? ⟨gc, 1, none⟩ = some (.int .i64 d.play) ∧ X.cell? ⟨gc, 2, none⟩ = some (.int .i64 d.slot) ∧ X.cell? ⟨gc, 3, none⟩ = some (.string d.name) ∧ X.cell? ⟨gc, 4, none⟩ = some (.int .i64 d.pos)) := fun X h =>
        ⟨by rw [(oP.out X h).2.2.2.cell]; rfl, by rw [(oP.out X h).2.2.2.cell]; rfl, by rw [(oP.out X h).2.2.2.cell]; rfl, by rw [(oP.out X h).2.2.2.cell]; rfl, by rw [(oP.out X h).2.2.2.cell]; rfl⟩
       have HE : Hid (checkChanges t l = ccLoop T1 KL (pv l k) (d :: l.drop (k + 1))) := by rw [← Hdr.out]; exact Hcc1.out
       clear Hcc1
       obtain ⟨x0, x1, x2, x3, x4⟩ := HX.out W1 hP
       by_cases hsd : d.side = 0 ∨ d.side = 1
       ·
        have Hsd := Lib.hid hsd
        go_cut [58] from 41 to 169 (fun s58 w2 => s58 = .bool false ∧ w2 = W1)
        case first =>
         rcases hsd with h0 | h0
         ·
          have h1 : (d.side != 0) = false := by simp [h0]
          clear h0
          go_wp2
          go_meet
          exact ⟨rfl, rfl⟩
         ·
          have h1 : (d.side != 0) = true := by simp [h0]
          have h2 : (d.side != 1) = false := by simp [h0]
          clear h0
          go_wp2
          go_meet
          exact ⟨rfl, rfl⟩
        case rest =>
         obtain ⟨rfl, rfl⟩ := hcut
         clear hsd
         by_cases hrg : withinE d.play 0 256 = 0 ∧ withinE d.slot 1 9 = 0 ∧ withinE d.pos 1 9 = 0
         ·
          obtain ⟨r1, r2, r3⟩ := hrg
          have R1 := Lib.hid r1; have R2 := Lib.hid r2; have R3 := Lib.hid r3
          have z1 : (withinE d.play 0 256 != 0) = false := by simp [r1]
          have z2 : (withinE d.slot 1 9 != 0) = false := by simp [r2]
          have z3 : (withinE d.pos 1 9 != 0) = false := by simp [r3]
          clear r1 r2 r3
          go_upto_region 19 with (go_at_call 39; refine (refRange_any _ _ _ _).mono ?_; rintro e w2 ⟨rfl, rfl⟩)
          clear z1 z2 z3
          have hnm := refName_any d.name Hds.out wc
          cases hN : isName d.name
          ·
           rw [hN] at hnm
           have hE : checkChanges t l = 8 := by rw [HE.out]; exact cc_name _ _ _ _ _ Hsd.out R1.out R2.out R3.out hN
           have HE2 := Lib.hid hE; have Hnm := Lib.hid hnm; clear hE hN hnm
           go_wp2_with (go_at_call 52; refine Hnm.out.mono ?_; rintro e w2 ⟨rfl, rfl⟩)
           go_ret
           exact ⟨ret_int HE2.out.symm, (oP.out _ hP).1⟩
          ·
           rw [hN] at hnm
           have Hfit := Lib.hid (checkC_fit d Hsd.out R1.out R2.out R3.out hN)
           have Hnm := Lib.hid hnm; clear hN hnm
           go_upto_region 21 with (go_at_call 52; refine Hnm.out.mono ?_; rintro e w2 ⟨rfl, rfl⟩)
           clear Hnm
           have Hprev : Hid (∀ q, k = q + 1 → pv l k = some (l.getD q ⟨0, 0, 0, .empty, 0⟩) ∧ ∀ j, j < 5 → w.cell? ⟨b, off + q * 5 + j, none⟩ = (l.getD q ⟨0, 0, 0, .empty, 0⟩).val[j]?) := by
            rintro q rfl
            refine ⟨by unfold pv; rw [if_neg (by omega)]; rfl, ?_⟩
            obtain ⟨b2, off2, e, hc2⟩ := Hl.out q (by rw [Hn.out]; omega)
            injection e with e
            injection e with e1 e2
            subst e1; subst e2
            exact hc2
           have Hdrg : Hid (∀ X, P X → X.rangeAt gc 0 d.val.toList) := fun X h j v hv => by
            rw [(oP.out X h).2.2.2.cell, Nat.zero_add]
            rw [Array.getElem?_toList] at hv
            exact hv
           have Haft : Hid (∀ (p : Chg) W, Calls Tryz.prog 83 #[.agg d.val.toList.toArray, .agg p.val.toList.toArray] W fun x w' => x = .returned (.bool (after d p)) ∧ Below W.heap.size W w') := fun p W => by
            rw [Array.toArray_toList, Array.toArray_toList]; exact after_any d p W
           have Hszd : Hid ((Tryz.prog.info? 144).map (·.size) = some d.val.toList.length) := size144D
           have hPd : P wc.drew := kP _ _ hP (bt_drew (Below.refl _ wc))
           by_cases hlate : late d (pv l k) = true
           ·
            have hE : checkChanges t l = 11 := by rw [HE.out]; exact cc_late _ _ _ _ _ Hfit.out hlate
            have HE2 := Lib.hid hE; clear hE
            obtain ⟨q, rfl⟩ : ∃ q, k = q + 1 := ⟨k - 1, by
             rcases Nat.eq_zero_or_pos k with h0 | h0
             ·
              rw [h0] at hlate; simp [pv, late] at hlate
             ·
              omega⟩
            obtain ⟨hpv1, hcq⟩ := Hprev.out q rfl
            rw [hpv1] at hlate
            generalize l.getD q ⟨0, 0, 0, .empty, 0⟩ = p at hlate hcq
            have hnot : after d p = false := by simpa [late] using hlate
            have Hnot := Lib.hid hnot; have Hcq := Lib.hid hcq
            have Hszp : Hid ((Tryz.prog.info? 144).map (·.size) = some p.val.toList.length) := size144D
            have Hpr : Hid (∀ X, P X → X.rangeAt b (off + q * 5) p.val.toList) := fun X h => rdcRange Hcq.out (oP.out X h).1 hb0
            have Haf : Hid (∀ W, Calls Tryz.prog 83 #[.agg d.val.toList.toArray, .agg p.val.toList.toArray] W fun x w' => x = .returned (.bool false) ∧ Below W.heap.size W w') := fun W => by rw [← Hnot.out]; exact Haft.out p W
            clear hlate hnot hcq hpv1 Haft
            have u1 : IntKind.i64.wrap (((q + 1 : Nat) : Int) - 1) = (q : Int) := by rw [IntWalk.i64_in _ (by omega)]; omega
            have u2 : decide ((0 : Int) < ((q + 1 : Nat) : Int)) = true := decide_eq_true (by omega)
            have u3 : (0 : Int) ≤ (q : Int) := by omega
            have u4 : (q : Int) < (n : Int) := by omega
            clear q0 q1
            generalize ((q + 1 : Nat) : Int) = kk at u1 u2
            generalize d.val.toList = cd at Hdrg Hszd Haf
            generalize p.val.toList = cp at Hpr Hszp Haf
            refine wp_region_held_drew (S := P) (by kernel_rfl) (hPd) (fun hHeld => ?_)
            refine tkE (i := 0) rfl ?_
            refine tkE (i := 1) rfl ?_
            refine tkE (i := 2) rfl ?_
            refine tkE (i := 4) rfl ?_
            refine tkE (i := 5) rfl ?_
            refine tkE (i := 6) rfl ?_
            refine tkE (i := 7) rfl ?_
            refine ldE (i := 3) rfl rfl rfl (cd) (fun W h => Hdrg.out W h) Tryz.underlying144 rfl (Hszd.out) ?_
            refine ldE (i := 8) rfl rfl rfl (cp) (fun W h => Hpr.out W h) Tryz.underlying144 rfl (Hszp.out) ?_
            refine rdE (i := 9) rfl (fun K hK => ?_)
            go_simp
            (go_at_call 83; refine (Haf.out _).mono ?_; rintro e w3 ⟨rfl, hb3⟩)
            go_wp2_with fail
            refine onE hK (kP _ _ hHeld hb3) (fun hHeld => ?_)
            clear hK K
            refine tkE (i := 10) rfl ?_
            refine tkE (i := 11) rfl ?_
            refine wpAnyH_done (by kernel_rfl) ?_ _
            go_wp2
            go_ret
            exact ⟨ret_int HE2.out.symm, (oP.out _ hHeld).1⟩
           ·
            have Hlate : Hid (late d (pv l k) = false) := by show _ = _; simpa using hlate
            clear hlate
            go_cut [90] from 41 to 169 (fun s90 w2 => s90 = .bool false ∧ P w2)
            case first =>
             rcases Nat.eq_zero_or_pos k with hk0 | hk0
             ·
              have u2 : decide ((0 : Int) < (k : Int)) = false := decide_eq_false (by omega)
              have u5 : ¬ 0 < k := by omega
              clear q0 q1 Haft Hprev hk0
              refine wp_region_held_drew (S := P) (by kernel_rfl) (hPd) (fun hHeld => ?_)
              refine tkE (i := 0) rfl ?_
              refine tkE (i := 1) rfl ?_
              refine tkE (i := 2) rfl ?_
              refine skE (i := 3) rfl ?_
              refine skE (i := 4) rfl ?_
              refine skE (i := 5) rfl ?_
              refine skE (i := 6) rfl ?_
              refine skE (i := 7) rfl ?_
              refine skE (i := 8) rfl ?_
              refine skE (i := 9) rfl ?_
              refine skE (i := 10) rfl ?_
              refine tkE (i := 11) rfl ?_
              refine wpAnyH_done (by kernel_rfl) ?_ _
              go_wp2_with fail
              go_meet
              exact ⟨rfl, hHeld⟩
             ·
              obtain ⟨q, hq⟩ : ∃ q, k = q + 1 := ⟨k - 1, by omega⟩
              obtain ⟨hpv1, hcq⟩ := Hprev.out q hq
              have hnot := Hlate.out
              rw [hpv1] at hnot
              generalize l.getD q ⟨0, 0, 0, .empty, 0⟩ = p at hnot hcq
              have hnot2 : after d p = true := by simpa [late] using hnot
              have Hnot := Lib.hid hnot2; have Hcq := Lib.hid hcq
              have Hszp : Hid ((Tryz.prog.info? 144).map (·.size) = some p.val.toList.length) := size144D
              have Hpr : Hid (∀ X, P X → X.rangeAt b (off + q * 5) p.val.toList) := fun X h => rdcRange Hcq.out (oP.out X h).1 hb0
              have Haf : Hid (∀ W, Calls Tryz.prog 83 #[.agg d.val.toList.toArray, .agg p.val.toList.toArray] W fun x w' => x = .returned (.bool true) ∧ Below W.heap.size W w') := fun W => by rw [← Hnot.out]; exact Haft.out p W
              clear hnot hnot2 hcq hpv1 Haft Hprev
              have u1 : IntKind.i64.wrap ((k : Int) - 1) = (q : Int) := by rw [IntWalk.i64_in _ (by omega)]; omega
              have u2 : decide ((0 : Int) < (k : Int)) = true := decide_eq_true (by omega)
              have u5 : 0 < k := hk0
              have u3 : (0 : Int) ≤ (q : Int) := by omega
              have u4 : (q : Int) < (n : Int) := by omega
              clear q0 q1 hq hk0
              generalize d.val.toList = cd at Hdrg Hszd Haf
              generalize p.val.toList = cp at Hpr Hszp Haf
              refine wp_region_held_drew (S := P) (by kernel_rfl) (hPd) (fun hHeld => ?_)
              refine tkE (i := 0) rfl ?_
              refine tkE (i := 1) rfl ?_
              refine tkE (i := 2) rfl ?_
              refine tkE (i := 4) rfl ?_
              refine tkE (i := 5) rfl ?_
              refine tkE (i := 6) rfl ?_
              refine tkE (i := 7) rfl ?_
              refine ldE (i := 3) rfl rfl rfl (cd) (fun W h => Hdrg.out W h) Tryz.underlying144 rfl (Hszd.out) ?_
              refine ldE (i := 8) rfl rfl rfl (cp) (fun W h => Hpr.out W h) Tryz.underlying144 rfl (Hszp.out) ?_
              refine rdE (i := 9) rfl (fun K hK => ?_)
              go_simp
              (go_at_call 83; refine (Haf.out _).mono ?_; rintro e w3 ⟨rfl, hb3⟩)
              go_wp2_with fail
              refine onE hK (kP _ _ hHeld hb3) (fun hHeld => ?_)
              clear hK K
              refine tkE (i := 10) rfl ?_
              refine tkE (i := 11) rfl ?_
              refine wpAnyH_done (by kernel_rfl) ?_ _
              go_wp2_with fail
              go_meet
              exact ⟨rfl, hHeld⟩
            case rest =>
             obtain ⟨rfl, hP2⟩ := hcut
             clear hP hPd Haft Hprev x0 x1 x2 x3 x4
             obtain ⟨j, hj9, hsl⟩ : ∃ j : Nat, j < 9 ∧ d.slot = (j : Int) + 1 := by
              have := (checkC_zero Hfit.out).2.2.1
              exact ⟨(d.slot - 1).toNat, by omega, by omega⟩
             have Hbt : Hid ((T1.get d.side).bat d.slot = (T1.get d.side).b.getD j .empty ∧ (T1.get d.side).at_ d.slot = (T1.get d.side).p.getD j 0) := by
              unfold LU.bat LU.at_
              rw [hsl, show ((j : Int) + 1 - 1).toNat = j by omega]
              exact ⟨rfl, rfl⟩
             have HCT : Hid (∀ X, P X → X.cell? ⟨w.heap.size, d.side.toNat * 18 + j, none⟩ = some (.string ((T1.get d.side).b.getD j .empty)) ∧ X.cell? ⟨w.heap.size, d.side.toNat * 18 + 9 + j, none⟩ = some (.int .i64 ((T1.get d.side).p.getD j 0))) := fun X h =>
              ⟨by rw [(oP.out X h).2.1.cell, List.getElem?_toArray]; exact Tms.cell_b T1 Ht1.out d.side Hsd.out j hj9, by rw [(oP.out X h).2.1.cell, List.getElem?_toArray]; exact Tms.cell_p T1 Ht1.out d.side Hsd.out j hj9⟩
             have HX' : Hid (∀ X, P X → X.cell? ⟨gc, 0, none⟩ = some (.int .i64 d.side) ∧ X.cell? ⟨gc, 2, none⟩ = some (.int .i64 ((j : Int) + 1)) ∧ X.cell? ⟨gc, 3, none⟩ = some (.string d.name) ∧ X.cell? ⟨gc, 4, none⟩ = some (.int .i64 d.pos)) := fun X h => by
              have := HX.out X h
              rw [hsl] at this
              exact ⟨this.1, this.2.2.1, this.2.2.2.1, this.2.2.2.2⟩
             clear hsl
             generalize hbn : (T1.get d.side).b.getD j .empty = bn at Hbt HCT
             generalize hbp : (T1.get d.side).p.getD j 0 = bp at Hbt HCT
             clear hbn hbp
             have s0 : 0 ≤ d.side := by rcases Hsd.out with e | e <;> omega
             have s1 : d.side < 2 := by rcases Hsd.out with e | e <;> omega
             have w1 : IntKind.i64.wrap ((j : Int) + 1 - 1) = (j : Int) := by rw [IntWalk.i64_in _ (by omega)]; omega
             have w2 : IntKind.i64.wrap (j : Int) = (j : Int) := IntWalk.i64_in _ (by omega)
             have j0 : (0 : Int) ≤ (j : Int) := by omega
             have j9 : (j : Int) < 9 := by omega
             go_upto_region 23 with fail
             go_cut [10] from 41 to 169 (fun s10 w2 => s10 = .bool (decide (bn = d.name)) ∧ P w2)
             case first =>
              have hPd : P wc.drew := kP _ _ hP2 (bt_drew (Below.refl _ wc))
              have hcs := HX'.out _ hPd
              have hct := HCT.out _ hPd
              have hbeq := tl_beq bn d.name
              refine wp_region_held_drew (S := fun W => (W.cell? ⟨gc, 0, none⟩ = some (.int .i64 d.side) ∧ W.cell? ⟨gc, 2, none⟩ = some (.int .i64 ((j : Int) + 1)) ∧ W.cell? ⟨gc, 3, none⟩ = some (.string d.name)) ∧ W.cell? ⟨w.heap.size, d.side.toNat * 18 + j, none⟩ = some (.string bn)) (by kernel_rfl) (⟨⟨hcs.1, hcs.2.1, hcs.2.2.1⟩, hct.1⟩) (fun hHeld => ?_)
              refine tkE (i := 0) rfl ?_
              refine tkE (i := 1) rfl ?_
              refine tkE (i := 2) rfl ?_
              refine tkE (i := 3) rfl ?_
              refine tkE (i := 4) rfl ?_
              refine tkE (i := 5) rfl ?_
              refine tkE (i := 6) rfl ?_
              refine tkE (i := 7) rfl ?_
              refine tkE (i := 8) rfl ?_
              refine tkE (i := 9) rfl ?_
              refine tkE (i := 10) rfl ?_
              refine tkE (i := 11) rfl ?_
              refine tkE (i := 12) rfl ?_
              refine wpAnyH_done (by kernel_rfl) ?_ _
              go_wp2_with fail
              go_meet
              exact ⟨by first | rfl | simp [hbeq], hPd⟩
             case rest =>
              obtain ⟨rfl, hP3⟩ := hcut
              clear hP2
              generalize wc = W2 at hP3 ⊢
              obtain ⟨hok1, A6, c6, rfl, hr6⟩ := SlK.of_own (oP.out _ hP3).2.2.1
              clear hok1 hr6
              go_upto_region 24 with fail
              by_cases h9 : bn = d.name ∧ bp = d.pos
              ·
               obtain ⟨hb1, hb2⟩ := h9
               have hE : checkChanges t l = 9 := by rw [HE.out]; exact cc_twice _ _ _ _ _ Hfit.out Hlate.out ⟨Hbt.out.1.trans hb1, Hbt.out.2.trans hb2⟩
               have HE2 := Lib.hid hE; clear hE
               have hPd : P W2.drew := kP _ _ hP3 (bt_drew (Below.refl _ W2))
               have hcs := HX'.out _ hPd
               have hct := HCT.out _ hPd
               have z2 : (bp == d.pos) = true := by simpa using hb2
               rw [decide_eq_true hb1]
               clear hb1 hb2
               as_aux_lemma =>
                refine wp_region_held_drew (S := fun W => (W.cell? ⟨gc, 0, none⟩ = some (.int .i64 d.side) ∧ W.cell? ⟨gc, 2, none⟩ = some (.int .i64 ((j : Int) + 1)) ∧ W.cell? ⟨gc, 4, none⟩ = some (.int .i64 d.pos)) ∧ W.cell? ⟨w.heap.size, d.side.toNat * 18 + 9 + j, none⟩ = some (.int .i64 bp)) (by kernel_rfl) (⟨⟨hcs.1, hcs.2.1, hcs.2.2.2⟩, hct.2⟩) (fun hHeld => ?_)
                refine tkE (i := 0) rfl ?_
                refine tkE (i := 1) rfl ?_
                refine tkE (i := 2) rfl ?_
                refine tkE (i := 3) rfl ?_
                refine tkE (i := 4) rfl ?_
                refine tkE (i := 5) rfl ?_
                refine tkE (i := 6) rfl ?_
                refine tkE (i := 7) rfl ?_
                refine tkE (i := 8) rfl ?_
                refine tkE (i := 9) rfl ?_
                refine tkE (i := 10) rfl ?_
                refine tkE (i := 11) rfl ?_
                refine tkE (i := 12) rfl ?_
                refine tkE (i := 13) rfl ?_
                refine tkE (i := 14) rfl ?_
                refine wpAnyH_done (by kernel_rfl) ?_ _
                go_wp2
                go_ret
                exact ⟨ret_int HE2.out.symm, (oP.out _ hPd).1⟩
              ·
               go_cut [10, 117] from 41 to 169 (fun s10 s117 w2 => s10 = .bool (decide (bn = d.name)) ∧ s117 = .bool false ∧ P w2)
               case first =>
                have hPd : P W2.drew := kP _ _ hP3 (bt_drew (Below.refl _ W2))
                have hcs := HX'.out _ hPd
                have hct := HCT.out _ hPd
                by_cases hb1 : bn = d.name
                ·
                 have z2 : (bp == d.pos) = false := by simpa using fun e => h9 ⟨hb1, e⟩
                 have Hb1 := Lib.hid (decide_eq_true hb1)
                 rw [Hb1.out]
                 clear hb1 h9
                 as_aux_lemma =>
                  refine wp_region_held_drew (S := fun W => (W.cell? ⟨gc, 0, none⟩ = some (.int .i64 d.side) ∧ W.cell? ⟨gc, 2, none⟩ = some (.int .i64 ((j : Int) + 1)) ∧ W.cell? ⟨gc, 4, none⟩ = some (.int .i64 d.pos)) ∧ W.cell? ⟨w.heap.size, d.side.toNat * 18 + 9 + j, none⟩ = some (.int .i64 bp)) (by kernel_rfl) (⟨⟨hcs.1, hcs.2.1, hcs.2.2.2⟩, hct.2⟩) (fun hHeld => ?_)
                  refine tkE (i := 0) rfl ?_
                  refine tkE (i := 1) rfl ?_
                  refine tkE (i := 2) rfl ?_
                  refine tkE (i := 3) rfl ?_
                  refine tkE (i := 4) rfl ?_
                  refine tkE (i := 5) rfl ?_
                  refine tkE (i := 6) rfl ?_
                  refine tkE (i := 7) rfl ?_
                  refine tkE (i := 8) rfl ?_
                  refine tkE (i := 9) rfl ?_
                  refine tkE (i := 10) rfl ?_
                  refine tkE (i := 11) rfl ?_
                  refine tkE (i := 12) rfl ?_
                  refine tkE (i := 13) rfl ?_
                  refine tkE (i := 14) rfl ?_
                  refine wpAnyH_done (by kernel_rfl) ?_ _
                  go_wp2_with fail
                  go_meet
                  exact ⟨by rw [Hb1.out], by first | rfl | simp, hPd⟩
                ·
                 have Hb1 := Lib.hid (decide_eq_false hb1)
                 rw [Hb1.out]
                 clear hb1 h9 hcs hct
                 as_aux_lemma =>
                  refine wp_region_held_drew (S := P) (by kernel_rfl) (hPd) (fun hHeld => ?_)
                  refine tkE (i := 0) rfl ?_
                  refine tkE (i := 1) rfl ?_
                  refine skE (i := 2) rfl ?_
                  refine skE (i := 3) rfl ?_
                  refine skE (i := 4) rfl ?_
                  refine skE (i := 5) rfl ?_
                  refine skE (i := 6) rfl ?_
                  refine skE (i := 7) rfl ?_
                  refine skE (i := 8) rfl ?_
                  refine skE (i := 9) rfl ?_
                  refine skE (i := 10) rfl ?_
                  refine skE (i := 11) rfl ?_
                  refine skE (i := 12) rfl ?_
                  refine skE (i := 13) rfl ?_
                  refine tkE (i := 14) rfl ?_
                  refine wpAnyH_done (by kernel_rfl) ?_ _
                  go_wp2_with fail
                  go_meet
                  exact ⟨by rw [Hb1.out], by first | rfl | simp, hHeld⟩
               case rest =>
                obtain ⟨rfl, rfl, hP4⟩ := hcut
                clear hP3
                generalize wc = W3 at hP4 ⊢
                go_upto_region 26 with fail
                have H54 : Hid (Calls Tryz.prog 54 #[.slice A6 (18 + k) c6, .string d.name] W3 fun x w' => x = .returned (.bool (decide (d.name ∈ KL))) ∧ W3 = w') := by
                 have h := (oP.out _ hP4).2.2.1
                 obtain ⟨_, A', c', e, hr⟩ := SlK.of_own h
                 injection e with e1 e2 e3
                 subst e1; subst e3
                 exact hasWord_any KL A6 (18 + k) c6 d.name W3 Hkl1.out (by omega) hr
                have hcs := HX'.out _ hP4
                by_cases h24 : bn ≠ d.name ∧ d.name ∈ KL
                ·
                 have hE : checkChanges t l = 24 := by
                  rw [HE.out]
                  refine cc_player _ _ _ _ _ Hfit.out Hlate.out (fun h => h9 ⟨Hbt.out.1.symm.trans h.1, Hbt.out.2.symm.trans h.2⟩) ⟨by rw [Hbt.out.1]; exact h24.1, h24.2⟩
                 have HE2 := Lib.hid hE; clear hE
                 rw [decide_eq_true h24.2] at H54
                 rw [decide_eq_false h24.1]
                 obtain ⟨y0, y1, y2, y3⟩ := hcs
                 clear h24 h9
                 go_wp2_with (go_at_call 54; refine H54.out.mono ?_; rintro e w2 ⟨rfl, rfl⟩)
                 go_ret
                 exact ⟨ret_int HE2.out.symm, (oP.out _ hP4).1⟩
                ·
                 go_cut [10, 125] from 41 to 169 (fun _ s125 w2 => s125 = .bool false ∧ w2 = W3)
                 case first =>
                  obtain ⟨y0, y1, y2, y3⟩ := hcs
                  by_cases hb1 : bn = d.name
                  ·
                   rw [decide_eq_true hb1]
                   clear hb1 h24 h9 H54
                   go_wp2
                   go_meet
                   exact ⟨by first | rfl | simp, rfl⟩
                  ·
                   rw [decide_eq_false hb1]
                   rw [decide_eq_false (fun h => h24 ⟨hb1, h⟩)] at H54
                   clear hb1 h24 h9
                   go_wp2_with (go_at_call 54; refine H54.out.mono ?_; rintro e w2 ⟨rfl, rfl⟩)
                   go_meet
                   exact ⟨by first | rfl | simp, rfl⟩
                 case rest =>
                  obtain ⟨rfl, rfl⟩ := hcut
                  clear H54
                  have Hn9 : Hid (¬ ((T1.get d.side).bat d.slot = d.name ∧ (T1.get d.side).at_ d.slot = d.pos)) := fun h => h9 ⟨Hbt.out.1.symm.trans h.1, Hbt.out.2.symm.trans h.2⟩
                  have Hn24 : Hid (¬ ((T1.get d.side).bat d.slot ≠ d.name ∧ d.name ∈ KL)) := fun h => h24 ⟨by rw [← Hbt.out.1]; exact h.1, h.2⟩
                  clear h9 h24 HCT Hbt
                  have hown := (oP.out _ hP4).2.2.1
                  have hbk1 := (oP.out _ hP4).2.1
                  have hbl1 := (oP.out _ hP4).1
                  have hbkd := (oP.out _ hP4).2.2.2
                  have hlw := hbk1.lt
                  have hn3w : ∀ r, (Value.slice A6 (18 + k) c6).ownBlock = some r → w.heap.size + 1 ≤ r ∧ r ≠ gc := hvown
                  have hcs1 := cell_one_new wc (.string d.name) 9
                  obtain ⟨y0, y1, y2, y3⟩ := hcs
                  go_upto_region 29 with (at_builtin; refine wpList_append_own _ rfl _ _ 26 rfl (w.heap.size + 1) 9 i0 (.string { data := #[] }) 1 16 Tryz.underlying26 hi hz0 hz1 hz2 rfl (by decide) _ _ _ rfl (hown.alloc _) ⟨wc.heap.size, 0, none⟩ 1 1 [.string d.name] rfl rfl hcs1 (strs_oneCell [d.name]) (by unfold maxLen; omega) (by omega) (by simp; omega) ?_; intro v' w5 hown' hgrow hnil)
                  have F5 : Hid (Below w.heap.size w w5 ∧ Bk w5 w.heap.size 46 T1.cells.toArray ∧ w5.ownsRow (w.heap.size + 1) 9 1 v' (18 + (k + 1)) ((KL ++ [d.name]).map .string) ∧ Bk w5 gc 144 #[.int .i64 d.side, .int .i64 d.play, .int .i64 d.slot, .string d.name, .int .i64 d.pos]) := by
                   refine ⟨(bt_alloc hbl1 _).grown hgrow (by simp; omega) (fun q e => by have := (hn3w q e).1; omega), (hgrow.block _ (by simp; omega) (fun e => by have := (hn3w _ e.symm).1; omega)).trans (hbk1.alloc _), ?_, (hgrow.block _ (by have := hbkd.lt; simp; omega) (fun e => (hn3w _ e.symm).2 rfl)).trans (hbkd.alloc _)⟩
                   rw [List.map_append]; exact hown'
                  clear hown' hgrow hnil hcs1 hown hbk1 hbl1 hbkd hlw hn3w hvown hP4 y0 y1 y2 y3 oP kP
                  have Hm : Hid (∀ W, Calls Tryz.prog 84 #[.agg T1.cells.toArray, .agg #[.int .i64 d.side, .int .i64 d.play, .int .i64 d.slot, .string d.name, .int .i64 d.pos]] W fun x w' => x = .returned (.agg (T1.made d).cells.toArray) ∧ Below W.heap.size W w') := fun W => refMade_any T1 Ht1.out _ rfl d (okS_of Hfit.out) W
                  have Ht2 := Lib.hid (Tms.made_ok' T1 Ht1.out d)
                  have Hi1 := Lib.hid (info46s T1.cells.toArray.size (Tms.size36 T1 Ht1.out))
                  have Hi2 := Lib.hid (info46s (T1.made d).cells.toArray.size (Tms.size36 _ Ht2.out))
                  have Ho2 := Lib.hid (Tms.oneCell (T1.made d))
                  have Hss : Hid (T1.cells.toArray.size = (T1.made d).cells.toArray.size) := by show _ = _; rw [Tms.size36 _ Ht1.out, Tms.size36 _ Ht2.out]
                  have Hi144 : Hid ((Tryz.prog.info? 144).map (·.size) = some 5) := size144D
                  have hlw5 := F5.out.2.1.lt
                  generalize T1.cells = tc1 at F5 Hm Hi1 Hss
                  obtain ⟨T2, hT2⟩ : ∃ T2, T2 = T1.made d := ⟨_, rfl⟩
                  rw [← hT2] at Hm Ht2 Hi2 Ho2 Hss
                  have HT2 := Lib.hid hT2; clear hT2
                  obtain ⟨tc2, htc2⟩ : ∃ tc2, tc2 = T2.cells := ⟨_, rfl⟩
                  rw [← htc2] at Hm Hi2 Ho2 Hss
                  have Htc2 := Lib.hid htc2; clear htc2
                  have hbT := F5.out.2.1
                  have hbD := F5.out.2.2.2
                  go_upto_region 30 with (first
                   | (refine wpList_load_row rfl 46 _ rfl w.heap.size rfl 46 tc1.toArray (0, 0) _ hbT Tryz.underlying46 rfl Hi1.out ?_)
                   | (refine wpList_load_row rfl 144 _ rfl gc rfl 144 #[.int .i64 d.side, .int .i64 d.play, .int .i64 d.slot, .string d.name, .int .i64 d.pos] (0, 0) _ hbD Tryz.underlying144 rfl Hi144.out ?_)
                   | (go_at_call 84; with_reducible refine (Hm.out _).mono ?_; rintro e w6 ⟨rfl, hb6⟩)
                   | (refine wpList_store_mid rfl 46 (.tmp 2) (.tmp 133) rfl w.heap.size 0 tc2.toArray rfl rfl ((hbT.below hb6 hbT.lt).there tc2.toArray.size (by rw [Hss.out]; exact Nat.le_refl _)) Hi2.out Ho2.out ?_))
                  have F6 : Hid (Below w.heap.size w (w6.setCells w.heap.size 0 tc2) ∧ Bk (w6.setCells w.heap.size 0 tc2) w.heap.size 46 tc2.toArray ∧ (w6.setCells w.heap.size 0 tc2).ownsRow (w.heap.size + 1) 9 1 v' (18 + (k + 1)) ((KL ++ [d.name]).map .string) ∧ Bk (w6.setCells w.heap.size 0 tc2) gc 144 #[.int .i64 d.side, .int .i64 d.play, .int .i64 d.slot, .string d.name, .int .i64 d.pos]) := by
                   refine ⟨below_sets (Nat.le_refl _) (bt_trans F5.out.1 hb6) _ _, ?_, own_setsFar (own_below F5.out.2.2.1 hb6) (by omega) _ _, Bk.setsFar (by omega) _ _ (hbD.below hb6 hbD.lt)⟩
                   have := (hbT.below hb6 hbT.lt).fill tc2.toArray (by rw [Hss.out])
                   simpa using this
                  clear F5 hb6 hbT hbD Hm Hi1 Hi2 Ho2 Hss
                  generalize (w6.setCells w.heap.size 0 tc2) = W6 at F6 ⊢
                  obtain ⟨P2, kP2, hP2, oP2⟩ : ∃ P2 : World → Prop, Keep P2 ∧ P2 W6 ∧ Hid (∀ X, P2 X → Below w.heap.size w X ∧ Bk X w.heap.size 46 tc2.toArray ∧ X.ownsRow (w.heap.size + 1) 9 1 v' (18 + (k + 1)) ((KL ++ [d.name]).map .string) ∧ Bk X gc 144 #[.int .i64 d.side, .int .i64 d.play, .int .i64 d.slot, .string d.name, .int .i64 d.pos]) := ⟨fun X => Below w.heap.size w X ∧ Bk X w.heap.size 46 tc2.toArray ∧ X.ownsRow (w.heap.size + 1) 9 1 v' (18 + (k + 1)) ((KL ++ [d.name]).map .string) ∧ Bk X gc 144 #[.int .i64 d.side, .int .i64 d.play, .int .i64 d.slot, .string d.name, .int .i64 d.pos], keep_and (keep_below w) (keep_and (keep_bk _ _ _) (keep_and (keep_own _ _ _ _ _ _) (keep_bk _ _ _))), F6.out, fun _ h => h⟩
                  clear F6
                  have HX2 : Hid (∀ X, P2 X → X.cell? ⟨gc, 0, none⟩ = some (.int .i64 d.side) ∧ X.cell? ⟨gc, 1, none⟩ = some (.int .i64 d.play)) := fun X h => ⟨by rw [(oP2.out X h).2.2.2.cell]; rfl, by rw [(oP2.out X h).2.2.2.cell]; rfl⟩
                  simp only [Act.put]
                  go_cut [11] from 41 to 169 (fun s11 w2 => s11 = .bool (ends d (l.drop (k + 1))) ∧ P2 w2)
                  case first =>
                   have hPd : P2 W6.drew := kP2 _ _ hP2 (bt_drew (Below.refl _ W6))
                   have u1 : IntKind.i64.wrap ((n : Int) - 1) = (n : Int) - 1 := IntWalk.i64_in _ (by omega)
                   by_cases hlast : k + 1 = n
                   ·
                    have he : Hid (ends d (l.drop (k + 1)) = true) := by
                     show _ = _
                     rw [List.drop_of_length_le (by rw [Hn.out]; omega)]; rfl
                    have u2 : ((k : Int) == (n : Int) - 1) = true := by rw [beq_iff_eq]; omega
                    clear hlast
                    as_aux_lemma =>
                     refine wp_region_held_drew (S := P2) (by kernel_rfl) (hPd) (fun hHeld => ?_)
                     refine tkE (i := 0) rfl ?_
                     refine tkE (i := 1) rfl ?_
                     refine tkE (i := 2) rfl ?_
                     refine tkE (i := 3) rfl ?_
                     refine tkE (i := 4) rfl ?_
                     refine tkE (i := 5) rfl ?_
                     refine skE (i := 6) rfl ?_
                     refine skE (i := 7) rfl ?_
                     refine skE (i := 8) rfl ?_
                     refine skE (i := 9) rfl ?_
                     refine skE (i := 10) rfl ?_
                     refine skE (i := 11) rfl ?_
                     refine skE (i := 12) rfl ?_
                     refine skE (i := 13) rfl ?_
                     refine skE (i := 14) rfl ?_
                     refine tkE (i := 15) rfl ?_
                     refine tkE (i := 16) rfl ?_
                     refine skE (i := 17) rfl ?_
                     refine skE (i := 18) rfl ?_
                     refine skE (i := 19) rfl ?_
                     refine skE (i := 20) rfl ?_
                     refine skE (i := 21) rfl ?_
                     refine skE (i := 22) rfl ?_
                     refine skE (i := 23) rfl ?_
                     refine skE (i := 24) rfl ?_
                     refine skE (i := 25) rfl ?_
                     refine tkE (i := 26) rfl ?_
                     refine tkE (i := 27) rfl ?_
                     refine wpAnyH_done (by kernel_rfl) ?_ _
                     go_wp2_with fail
                     go_meet
                     exact ⟨by rw [he.out], hHeld⟩
                   ·
                    have u2 : ((k : Int) == (n : Int) - 1) = false := by
                     rw [beq_eq_false_iff_ne]; omega
                    have hk1 : k + 1 < l.length := by rw [Hn.out]; omega
                    have hcq : ∀ j, j < 5 → w.cell? ⟨b, off + (k + 1) * 5 + j, none⟩ = (l.getD (k + 1) ⟨0, 0, 0, .empty, 0⟩).val[j]? := by
                     obtain ⟨b2, off2, e, hc2⟩ := Hl.out (k + 1) hk1
                     injection e with e
                     injection e with e1 e2
                     subst e1; subst e2
                     exact hc2
                    have hdr2 : l.drop (k + 1) = l.getD (k + 1) ⟨0, 0, 0, .empty, 0⟩ :: l.drop (k + 1 + 1) := by
                     rw [List.drop_eq_getElem_cons hk1]
                     simp [List.getD, List.getElem?_eq_getElem hk1]
                    obtain ⟨q, hq⟩ : ∃ q, q = k + 1 := ⟨_, rfl⟩
                    have q2 : (q : Int) < (n : Int) := by omega
                    have q3 : (0 : Int) ≤ (q : Int) := by omega
                    have u3 : IntKind.i64.wrap ((k : Int) + 1) = (q : Int) := by rw [IntWalk.i64_in _ (by omega)]; omega
                    generalize l.getD (k + 1) ⟨0, 0, 0, .empty, 0⟩ = e at hcq hdr2
                    rw [← hq] at hcq
                    have he : Hid (ends d (l.drop (k + 1)) = (e.play != d.play || e.side != d.side)) := by show _ = _; rw [hdr2]; rfl
                    have x5 : W6.drew.cell? ⟨b, off + q * 5 + 1, none⟩ = some (.int .i64 e.play) := ((oP2.out _ hPd).1.cell (p := ⟨b, off + q * 5 + 1, none⟩) hb0).trans (hcq 1 (by omega))
                    have x6 : W6.drew.cell? ⟨b, off + q * 5, none⟩ = some (.int .i64 e.side) := ((oP2.out _ hPd).1.cell (p := ⟨b, off + q * 5, none⟩) hb0).trans (hcq 0 (by omega))
                    obtain ⟨x7, x8⟩ := HX2.out _ hPd
                    clear hlast hk1 hcq hdr2 hq q0 q1
                    by_cases hp : e.play = d.play
                    ·
                     have z1 : (e.play != d.play) = false := by simpa using hp
                     rw [z1] at he
                     clear hp
                     as_aux_lemma =>
                      refine wp_region_held_drew (S := fun W => (W.cell? ⟨gc, 0, none⟩ = some (.int .i64 d.side) ∧ W.cell? ⟨gc, 1, none⟩ = some (.int .i64 d.play)) ∧ W.cell? ⟨b, off + q * 5 + 1, none⟩ = some (.int .i64 e.play) ∧ W.cell? ⟨b, off + q * 5, none⟩ = some (.int .i64 e.side)) (by kernel_rfl) (⟨⟨x7, x8⟩, x5, x6⟩) (fun hHeld => ?_)
                      refine tkE (i := 0) rfl ?_
                      refine tkE (i := 1) rfl ?_
                      refine tkE (i := 2) rfl ?_
                      refine tkE (i := 3) rfl ?_
                      refine tkE (i := 4) rfl ?_
                      refine tkE (i := 5) rfl ?_
                      refine tkE (i := 6) rfl ?_
                      refine tkE (i := 7) rfl ?_
                      refine tkE (i := 8) rfl ?_
                      refine tkE (i := 9) rfl ?_
                      refine tkE (i := 10) rfl ?_
                      refine tkE (i := 11) rfl ?_
                      refine tkE (i := 12) rfl ?_
                      refine tkE (i := 13) rfl ?_
                      refine tkE (i := 14) rfl ?_
                      refine tkE (i := 15) rfl ?_
                      refine tkE (i := 16) rfl ?_
                      refine tkE (i := 17) rfl ?_
                      refine tkE (i := 18) rfl ?_
                      refine tkE (i := 19) rfl ?_
                      refine tkE (i := 20) rfl ?_
                      refine tkE (i := 21) rfl ?_
                      refine tkE (i := 22) rfl ?_
                      refine tkE (i := 23) rfl ?_
                      refine tkE (i := 24) rfl ?_
                      refine tkE (i := 25) rfl ?_
                      refine tkE (i := 26) rfl ?_
                      refine tkE (i := 27) rfl ?_
                      refine wpAnyH_done (by kernel_rfl) ?_ _
                      go_wp2_with fail
                      go_meet
                      exact ⟨by rw [he.out]; first | rfl | simp, hPd⟩
                    ·
                     have z1 : (e.play != d.play) = true := by simpa using hp
                     rw [z1] at he
                     clear hp
                     as_aux_lemma =>
                      refine wp_region_held_drew (S := fun W => (W.cell? ⟨gc, 0, none⟩ = some (.int .i64 d.side) ∧ W.cell? ⟨gc, 1, none⟩ = some (.int .i64 d.play)) ∧ W.cell? ⟨b, off + q * 5 + 1, none⟩ = some (.int .i64 e.play) ∧ W.cell? ⟨b, off + q * 5, none⟩ = some (.int .i64 e.side)) (by kernel_rfl) (⟨⟨x7, x8⟩, x5, x6⟩) (fun hHeld => ?_)
                      refine tkE (i := 0) rfl ?_
                      refine tkE (i := 1) rfl ?_
                      refine tkE (i := 2) rfl ?_
                      refine tkE (i := 3) rfl ?_
                      refine tkE (i := 4) rfl ?_
                      refine tkE (i := 5) rfl ?_
                      refine tkE (i := 6) rfl ?_
                      refine tkE (i := 7) rfl ?_
                      refine tkE (i := 8) rfl ?_
                      refine tkE (i := 9) rfl ?_
                      refine tkE (i := 10) rfl ?_
                      refine tkE (i := 11) rfl ?_
                      refine tkE (i := 12) rfl ?_
                      refine tkE (i := 13) rfl ?_
                      refine tkE (i := 14) rfl ?_
                      refine tkE (i := 15) rfl ?_
                      refine tkE (i := 16) rfl ?_
                      refine skE (i := 17) rfl ?_
                      refine skE (i := 18) rfl ?_
                      refine skE (i := 19) rfl ?_
                      refine skE (i := 20) rfl ?_
                      refine skE (i := 21) rfl ?_
                      refine skE (i := 22) rfl ?_
                      refine skE (i := 23) rfl ?_
                      refine skE (i := 24) rfl ?_
                      refine skE (i := 25) rfl ?_
                      refine tkE (i := 26) rfl ?_
                      refine tkE (i := 27) rfl ?_
                      refine wpAnyH_done (by kernel_rfl) ?_ _
                      go_wp2_with fail
                      go_meet
                      exact ⟨by rw [he.out]; first | rfl | simp, hPd⟩
                  case rest =>
                   obtain ⟨rfl, hP5⟩ := hcut
                   clear hP2
                   generalize wc = W7 at hP5 ⊢
                   have H85 : Hid (∀ W, Calls Tryz.prog 85 #[.agg (T2.get d.side).cells.toArray] W fun x w' => x = .returned (.bool (decide (T2.get d.side).p.Nodup)) ∧ Below W.heap.size W w') := fun W => permuted_any _ (Tms.get_ok _ Ht2.out _) _ rfl W
                   have hrx : W7.rangeAt w.heap.size (d.side.toNat * 18) (T2.get d.side).cells := by
                    have hb := (oP2.out _ hP5).2.1
                    rw [Htc2.out] at hb
                    rcases Hsd.out with e | e
                    ·
                     rw [e]; exact tms_range0 hb
                    ·
                     rw [e]; exact tms_range1 Ht2.out hb
                   have Hi25 := Lib.hid (size25D (T2.get d.side) (Tms.get_ok _ Ht2.out _))
                   have y0 := (HX2.out _ hP5).1
                   generalize (T2.get d.side).cells = xc at H85 hrx Hi25
                   by_cases h29 : ends d (l.drop (k + 1)) = true ∧ ¬ (T2.get d.side).p.Nodup
                   ·
                    have hE : checkChanges t l = 29 := by
                     rw [HE.out]
                     exact cc_conf _ _ _ _ _ Hfit.out Hlate.out Hn9.out Hn24.out (by rw [← HT2.out]; exact h29)
                    have HE2 := Lib.hid hE; clear hE
                    rw [decide_eq_false h29.2] at H85
                    rw [h29.1]
                    clear h29
                    go_wp2_with (first
                     | (refine wpList_load_cells_g 25 _ rfl w.heap.size (d.side.toNat * 18) rfl xc (fun j hj => by rw [List.getElem?_eq_getElem hj]; exact hrx j _ (List.getElem?_eq_getElem hj)) _ Tryz.underlying25 rfl Hi25.out rfl ?_)
                     | (go_at_call 85; refine (H85.out _).mono ?_; rintro e w8 ⟨rfl, hb8⟩))
                    go_ret
                    exact ⟨ret_int HE2.out.symm, (oP2.out _ (kP2 _ _ hP5 hb8)).1⟩
                   ·
                    go_upto_region 31 with fail
                    go_cut [11, 169] from 41 to 169 (fun _ s169 w2 => s169 = .bool false ∧ P2 w2)
                    case first =>
                     cases hends : ends d (l.drop (k + 1))
                     ·
                      clear h29 H85
                      go_wp2
                      go_meet
                      exact ⟨by first | rfl | simp, hP5⟩
                     ·
                      have hnd : (T2.get d.side).p.Nodup := by
                       refine Decidable.byContradiction fun h => h29 ⟨hends, h⟩
                      rw [decide_eq_true hnd] at H85
                      clear h29 hnd hends
                      go_wp2_with (first
                       | (refine wpList_load_cells_g 25 _ rfl w.heap.size (d.side.toNat * 18) rfl xc (fun j hj => by rw [List.getElem?_eq_getElem hj]; exact hrx j _ (List.getElem?_eq_getElem hj)) _ Tryz.underlying25 rfl Hi25.out rfl ?_)
                       | (go_at_call 85; refine (H85.out _).mono ?_; rintro e w8 ⟨rfl, hb8⟩))
                      go_meet
                      exact ⟨by first | rfl | simp, kP2 _ _ hP5 hb8⟩
                    case rest =>
                     obtain ⟨rfl, hP6⟩ := hcut
                     clear hP5 H85 hrx Hi25 y0
                     have Hon : Hid (ccLoop t (t.l0.b ++ t.l1.b) none l = ccLoop T2 (KL ++ [d.name]) (pv l (k + 1)) (l.drop (k + 1))) := by
                      show _ = _
                      rw [← Hcc.out, HE.out, cc_on _ _ _ _ _ Hfit.out Hlate.out Hn9.out Hn24.out (by rw [← HT2.out]; exact h29), Hpv.out, HT2.out]
                     clear h29
                     go_wp2
                     refine ⟨?_, ?_⟩
                     ·
                      refine ⟨_, _, _, _, _, _, _, _, _, _, _, _, _, _, _, _, _, _, _, _, _, _, _, _, _, _, _, _, _, _, _, _, _, _, _, _, _, _, _, _, _, _, _, _, _, _, _, _, _, _, _, _, _, _, _, _, _, _, _, _, _, _, _, _, _, _, _, _, _, _, _, _, _, _, _, _, _, _, _, _, _, _, _, _, _, _, _, _, _, _, _, _, _, _, _, _, _, _, _, _, _, _, _, _, _, _, _, _, _, _, _, _, _, _, _, _, _, _, _, _, _, _, _, _, _, _, _, _, _, _, _, _, _, _, _, ?_, rfl⟩
                      refine ⟨k + 1, T2, KL ++ [d.name], by omega, by go_num, Ht2.out, (oP2.out _ hP6).1, ?_, (oP2.out _ hP6).2.2.1, ?_, Hon.out⟩
                      ·
                       rw [← Htc2.out]; exact (oP2.out _ hP6).2.1
                      ·
                       rw [List.length_append, Hkl1.out]; rfl
                     ·
                      simp [intOf]; omega
         ·
          have hE : checkChanges t l = 3 := by
           rw [HE.out]
           refine cc_range _ _ _ _ _ Hsd.out ?_
           by_cases a1 : withinE d.play 0 256 = 0
           ·
            by_cases a2 : withinE d.slot 1 9 = 0
            ·
             exact .inr (.inr fun a3 => hrg ⟨a1, a2, a3⟩)
            ·
             exact .inr (.inl a2)
           ·
            exact .inl a1
          have HE2 := Lib.hid hE; clear hE
          rcases within_cases d.play 0 256 with r1 | r1
          ·
           rcases within_cases d.slot 1 9 with r2 | r2
           ·
            rcases within_cases d.pos 1 9 with r3 | r3
            ·
             exact absurd ⟨r1, r2, r3⟩ hrg
            ·
             have z1 : (withinE d.play 0 256 != 0) = false := by simp [r1]
             have z2 : (withinE d.slot 1 9 != 0) = false := by simp [r2]
             have z3 : (withinE d.pos 1 9 != 0) = true := by simp [r3]
             clear r1 r2 r3 hrg
             go_wp2_with (go_at_call 39; refine (refRange_any _ _ _ _).mono ?_; rintro e w2 ⟨rfl, rfl⟩)
             go_ret
             exact ⟨ret_int HE2.out.symm, (oP.out _ hP).1⟩
           ·
            have z1 : (withinE d.play 0 256 != 0) = false := by simp [r1]
            have z2 : (withinE d.slot 1 9 != 0) = true := by simp [r2]
            clear r1 r2 hrg
            go_wp2_with (go_at_call 39; refine (refRange_any _ _ _ _).mono ?_; rintro e w2 ⟨rfl, rfl⟩)
            go_ret
            exact ⟨ret_int HE2.out.symm, (oP.out _ hP).1⟩
          ·
           have z1 : (withinE d.play 0 256 != 0) = true := by simp [r1]
           clear r1 hrg
           go_wp2_with (go_at_call 39; refine (refRange_any _ _ _ _).mono ?_; rintro e w2 ⟨rfl, rfl⟩)
           go_ret
           exact ⟨ret_int HE2.out.symm, (oP.out _ hP).1⟩
       ·
        have h1 : (d.side != 0) = true := by simp; omega
        have h2 : (d.side != 1) = true := by simp; omega
        have hE : checkChanges t l = 17 := by
         rw [HE.out, ccLoop]
         have e : checkC d = 17 := by
          unfold checkC
          have : sidedE d.side = 17 := by unfold sidedE whenE; rw [h1, h2]; rfl
          rw [this]; rfl
         rw [if_pos (by rw [e]; simp), e]
        have HE2 := Lib.hid hE; clear hE hsd
        go_wp2
        go_ret
        exact ⟨ret_int HE2.out.symm, (oP.out _ hP).1⟩
      ·
       obtain rfl : k = n := by omega
       have hfin : checkChanges t l = 0 := by rw [Hcc1.out, List.drop_of_length_le (by rw [Hn.out]; exact Nat.le_refl _)]; rfl
       have Hfin := Lib.hid hfin; clear hfin
       go_wp2
       go_ret
       exact ⟨ret_int Hfin.out.symm, hb⟩
 ·
  have hz : (checkTeams t != 0) = true := by simpa using hct
  have hz2' : (checkTeams t == 0) = false := by simpa using hct
  rw [if_pos hct] at Hcc
  clear hct
  generalize checkTeams t = E at H82 hz hz2' Hcc
  go_enter Tryz.func26, Tryz.ntmps26
  go_upto_region 1 with fail
  generalize (w.alloc (.cells T 46)) = W0 at F ⊢
  go_wp2_with (first
   | (refine wpList_load_row rfl 46 _ rfl w.heap.size rfl 46 t.cells.toArray (0, 0) _ F.out.2 Tryz.underlying46 rfl Hi46.out ?_)
   | (go_at_call 82; refine (H82.out _).mono ?_; rintro e w1 ⟨rfl, hb1⟩))
  go_ret
  exact ⟨ret_int Hcc.out.symm, bt_trans F.out.1 hb1⟩
end Go.Proofs.YtmagppkclnebjaaGreatDoor
