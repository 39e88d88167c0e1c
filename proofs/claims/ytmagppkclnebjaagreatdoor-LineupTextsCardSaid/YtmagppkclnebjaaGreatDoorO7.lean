/- dugoutlaw03.LineupTexts: it returns true at every game and string (the walk; begun). -/
import Derived.Test.YtmagppkclnebjaaGreatDoorO6
import Derived.Deep.Cut
import Derived.Deep.CutRange
import Derived.BigQuiet
set_option linter.unusedVariables false
set_option linter.unusedSimpArgs false
set_option linter.unusedSimpArgs false
set_option linter.unusedVariables false
namespace Go.Proofs.YtmagppkclnebjaaGreatDoor
open Go.RowKit
open L

theorem new_teams46 (w : World) (tc : List Value) (h : tc.toArray.size = 36) : Bk ((w.alloc (.cells z36 46)).setCells w.heap.size 0 tc) w.heap.size 46 tc.toArray :=
 (Bk.new w 46 z36).fill tc.toArray (by rw [h]; rfl)
theorem new_rdc46 (w : World) (tc : List Value) {B : Option Addr} {l : List Chg} (hr : RdC w B l) : RdC ((w.alloc (.cells z36 46)).setCells w.heap.size 0 tc) B l :=
 rdc_z (hr.below (bt_new w _)) (Bk.new w 46 z36) tc

set_option maxHeartbeats 20000000 in
set_option maxRecDepth 100000 in
theorem txt_main (P : World → Prop) (w : World) (tc : List Value) (A : Option Addr) (n c : Nat) (l : List Chg) (x s : Str) (cc : Int) (tq : List Value) (lp : List Chg) (mp : Nat) (pa pe : Int)
 (Gp : GP w tc A n c 1 P) (Gt : TC tc) (C : TxtW P tc A n c l x s cc tq lp mp pa pe) (hs : s.size ≤ 4098 ∧ (s.size ≤ 1500 ∨ 4096 < s.size)) (hlm : Hid (lp.length = mp ∧ mp ≤ 100000)) (Etq : Hid (∀ W, (binOp .eql 46 (.agg tq.toArray) (.agg tq.toArray)).run Tryz.prog W = .ok (.bool true) W)) (Otq : Hid (∀ W, Calls Tryz.prog 29 #[.agg tq.toArray] W fun x w' => x = .returned (.agg tq.toArray) ∧ Below W.heap.size W w')) (G : Array Value) (hP : P (w.alloc (.cells G 49))) :
 Calls Tryz.prog 4 #[.agg G, .string s] w fun x w' => x = .returned (.bool true) ∧ Below w.heap.size w w' := by
 go_enter Tryz.func4, Tryz.ntmps4
 go_upto_region 1 with fail
 generalize (w.alloc (.cells G 49)) = W0 at hP ⊢
 go_cut [37] from 21 (fun s37 wr => s37 = .bool false ∧ P wr)
 case first =>
  as_aux_lemma =>
   have hgr := Gp.rg
   have hi49 := Gp.i49
   have h21 := C.h21
   have b2 : decide ((4098 : Int) < (s.size : Int)) = false := decide_eq_false (by omega)
   have hs2 := hs.2
   have a2 : ¬ (4098 : Int) < (s.size : Int) := by omega
   clear hs
   generalize (tc ++ [Value.slice A n c]) = gc at hgr hi49 h21
   rcases hs2 with h | h
   ·
    have a0 : ¬ (1500 : Int) < (s.size : Int) := by omega
    have b0 : decide ((1500 : Int) < (s.size : Int)) = false := decide_eq_false a0
    clear h
    go_wp2_with (first
     | (go_at_call 13; (with_reducible refine (C.h13 _ hP).mono ?_); rintro e w1 ⟨rfl, hb1⟩; have hP1 := Gp.kp _ _ hP hb1)
     | (refine wpList_load_cells_g 49 _ rfl w.heap.size 0 rfl gc (fun j hj => by rw [List.getElem?_eq_getElem hj]; exact hgr _ hP1 j _ (List.getElem?_eq_getElem hj)) _ Tryz.underlying49 rfl hi49 rfl ?_)
     | (go_at_call 21; (with_reducible refine (h21 _ hP1).mono ?_); rintro e w2 ⟨rfl, hb2⟩; have hP2 := Gp.kp _ _ hP1 hb2))
    go_meet
    exact ⟨by first | rfl | simp, hP2⟩
   ·
    have a0 : (1500 : Int) < (s.size : Int) := by omega
    have b0 : decide ((1500 : Int) < (s.size : Int)) = true := decide_eq_true a0
    have a1 : ¬ (s.size : Int) ≤ 4096 := by omega
    have b1 : decide ((s.size : Int) ≤ 4096) = false := decide_eq_false a1
    clear h
    go_wp2_with (first
     | (go_at_call 13; (with_reducible refine (C.h13 _ hP).mono ?_); rintro e w1 ⟨rfl, hb1⟩; have hP1 := Gp.kp _ _ hP hb1)
     | (refine wpList_load_cells_g 49 _ rfl w.heap.size 0 rfl gc (fun j hj => by rw [List.getElem?_eq_getElem hj]; exact hgr _ hP1 j _ (List.getElem?_eq_getElem hj)) _ Tryz.underlying49 rfl hi49 rfl ?_)
     | (go_at_call 21; (with_reducible refine (h21 _ hP1).mono ?_); rintro e w2 ⟨rfl, hb2⟩; have hP2 := Gp.kp _ _ hP1 hb2))
    go_meet
    exact ⟨by first | rfl | simp, hP2⟩
 case rest =>
  obtain ⟨rfl, hPc⟩ := hcut
  clear hP hs
  revert hPc
  generalize wc = W0
  intro hP
  go_upto_region 3 with fail
  go_cut [5, 6] from 21 (fun s5 s6 wr => s5 = .string x ∧ s6 = .int .i64 cc ∧ P wr)
  case first =>
   as_aux_lemma =>
    have HS : Hid (∀ X, P X → X.cell? ⟨w.heap.size, 36, none⟩ = some (.slice A n c) ∧ P X) := fun X h => ⟨Gp.c36 _ h, h⟩
    have HG : Hid (∀ X, P X → X.rangeAt w.heap.size 0 tc) := fun X h => Gp.r _ h
    have kQ := Gp.kp
    have hS0 := HS.out _ (kQ _ _ hP (bt_drew (Below.refl _ W0)))
    refine wp_region_held_drew (S := (fun X => X.cell? ⟨w.heap.size, 36, none⟩ = some (.slice A n c) ∧ P X)) (by kernel_rfl) (hS0) (fun hHeld => ?_)
    refine tkE (i := 0) rfl ?_
    refine ldE (i := 1) rfl rfl rfl (tc) (fun W h => HG.out W h.2) Tryz.underlying46 rfl (Gt.l46) ?_
    refine tkE (i := 3) rfl ?_
    refine tkE (i := 4) rfl ?_
    refine rdE (i := 2) rfl (fun K hK => ?_)
    go_simp
    (go_at_call 23; refine (C.h23 _).mono ?_; rintro e w2 ⟨rfl, hb2⟩)
    go_wp2_with fail
    refine onE hK (HS.out _ (kQ _ _ hHeld.2 hb2)) (fun hHeld => ?_)
    clear hK K
    refine rdE (i := 5) rfl (fun K hK => ?_)
    go_simp
    (go_at_call 24; refine (C.h24 _ hHeld.2).mono ?_; rintro e w3 ⟨⟨B, d, rfl, hr3, _⟩, hb3⟩)
    go_wp2_with fail
    refine onE hK (HS.out _ (kQ _ _ hHeld.2 hb3)) (fun hHeld => ?_)
    clear hK K
    refine rdE (i := 6) rfl (fun K hK => ?_)
    go_simp
    (go_at_call 22; refine (C.h22 _ _ _ hHeld.2 hr3).mono ?_; rintro e w4 ⟨rfl, hb4⟩)
    go_wp2_with fail
    refine onE hK (HS.out _ (kQ _ _ hHeld.2 hb4)) (fun hHeld => ?_)
    clear hK K
    refine tkE (i := 7) rfl ?_
    refine tkE (i := 8) rfl ?_
    refine tkE (i := 9) rfl ?_
    refine tkE (i := 10) rfl ?_
    refine tkE (i := 11) rfl ?_
    refine wpAnyH_done (by kernel_rfl) ?_ _
    go_wp2_with fail
    go_meet
    exact ⟨rfl, rfl, hHeld.2⟩
  case rest =>
   obtain ⟨rfl, rfl, hPc⟩ := hcut
   clear hP
   generalize wc = W1 at hPc ⊢
   go_upto_region 4 with fail
   go_cut [7, 8, 9, 10] from 21 (fun s7 s8 s9 s10 wr => P wr ∧ ∃ g B d, s7 = .pointer (some ⟨g, 0, none⟩) ∧ s8 = .slice B mp d ∧ s9 = .int .i64 pa ∧ s10 = .int .i64 pe ∧ Bk wr g 54 tq.toArray ∧ RdC wr B lp)
   case first =>
    as_aux_lemma =>
     have h25 := C.h25
     have kp := Gp.kp; have lo := Gp.lo; have sets := Gp.sets
     have Gq := C.gq
     clear C Gp
     go_wp2_with (first
      | (go_at_call 25; (with_reducible refine (h25 _ hPc).mono ?_); rintro e w2 ⟨⟨B, d, rfl, hr2⟩, hb2⟩; have hP2 := kp _ _ hPc hb2; have hb := Bk.new w2 54 z36)
      | (refine wpList_store_mid rfl 54 (.tmp 7) (.tmp 52) rfl w2.heap.size 0 tq.toArray rfl rfl (hb.there _ (by rw [Gq.s36]; decide)) Gq.i54 Gq.one ?_))
     go_meet
     exact ⟨sets _ _ _ (kp _ _ hP2 (bt_new w2 _)) (lo _ hP2), w2.heap.size, B, d, rfl, rfl, rfl, rfl, new_teams w2 tq Gq.s36, new_rdc w2 tq hr2⟩
   case rest =>
    obtain ⟨hPc2, g7, B1, d1, rfl, rfl, rfl, rfl, hb7, hr7⟩ := hcut
    clear hPc
    generalize wc = W2 at hPc2 hb7 hr7 ⊢
    obtain ⟨R, kR, hR, oR⟩ : ∃ R : World → Prop, Keep R ∧ R W2 ∧ Hid ((∀ X, R X → P X ∧ Bk X g7 54 tq.toArray ∧ RdC X B1 lp ∧ W2.heap.size ≤ X.heap.size) ∧ ∀ X g cs, R X → W2.heap.size ≤ g → R (X.setCells g 0 cs)) :=
     ⟨fun X => P X ∧ Below W2.heap.size W2 X, keep_and Gp.kp (keep_below W2), ⟨hPc2, Below.refl _ _⟩, fun X h => ⟨h.1, hb7.below h.2 hb7.lt, hr7.below h.2, h.2.size⟩, fun X g cs h hg => ⟨Gp.sets X g cs h.1 (Nat.le_trans (Gp.lo _ hPc2) hg), below_sets hg h.2 _ _⟩⟩
    clear hPc2 hb7 hr7
    go_upto_region 5 with fail
    go_cut [11] from 21 (fun s11 wr => s11 = .int .i64 cc ∧ R wr)
    case first =>
     as_aux_lemma =>
      have HS : Hid (∀ X, R X → X.cell? ⟨w.heap.size, 36, none⟩ = some (.slice A n c) ∧ R X) := fun X h => ⟨Gp.c36 _ (oR.out.1 _ h).1, h⟩
      have HG : Hid (∀ X, R X → X.rangeAt w.heap.size 0 tc) := fun X h => Gp.r _ (oR.out.1 _ h).1
      have H26 : Hid (∀ W, R W → Calls Tryz.prog 26 #[.agg tc.toArray, .slice A n c] W fun e w' => e = .returned (.int .i64 cc) ∧ Below W.heap.size W w') := fun W h => C.h26 W (oR.out.1 _ h).1
      have hS0 := (HS.out _ hR).1
      have hr0 := HG.out _ hR
      have l46 := Gt.l46
      clear C Gp HS HG
      go_wp2_with (first
       | (refine wpList_load_cells_g 46 _ rfl w.heap.size 0 rfl tc (fun j hj => by rw [List.getElem?_eq_getElem hj]; exact hr0 j _ (List.getElem?_eq_getElem hj)) _ Tryz.underlying46 rfl Gt.i46 rfl ?_)
       | (go_at_call 26; (with_reducible refine (H26.out _ hR).mono ?_); rintro e w3 ⟨rfl, hb3⟩))
      go_meet
      exact ⟨rfl, kR _ _ hR hb3⟩
    case rest =>
     obtain ⟨rfl, hPc⟩ := hcut
     clear hR
     generalize wc = W3 at hPc ⊢
     go_upto_region 6 with fail
     go_cut [88] from 21 (fun s88 wr => s88 = .bool false ∧ R wr)
     case first =>
      as_aux_lemma =>
       have hr0 : ∀ X, R X → X.rangeAt w.heap.size 0 tc := fun X h => Gp.r _ (oR.out.1 _ h).1
       have hS0 : ∀ X, R X → X.cell? ⟨w.heap.size, 36, none⟩ = some (.slice A n c) := fun X h => Gp.c36 _ (oR.out.1 _ h).1
       have hP3 := (oR.out.1 _ hPc).1
       have hr1 := hr0 _ hPc
       have hS1 := hS0 _ hPc
       have wz : IntKind.i64.wrap 0 = 0 := by decide
       by_cases h0 : cc = 0
       ·
        have h27 := C.h27 h0
        have hz : (cc == 0) = true := by simpa using h0
        have hz2 : (cc != 0) = false := by simpa using h0
        have hss : (x != x) = false := by simp
        clear C Gp oR hr0 hS0 h0
        go_wp2_with (first
         | (refine wpList_load_cells_g 46 _ rfl w.heap.size 0 rfl tc (fun j hj => by rw [List.getElem?_eq_getElem hj]; exact hr1 j _ (List.getElem?_eq_getElem hj)) _ Tryz.underlying46 rfl Gt.i46 rfl ?_)
         | (go_at_call 27; (with_reducible refine (h27 _ hP3).mono ?_); rintro e w3 ⟨rfl, hb3⟩))
        go_meet
        exact ⟨by first | rfl | simp, kR _ _ hPc hb3⟩
       ·
        have hx := C.hx h0
        have hz : (cc == 0) = false := by simpa using h0
        have hz2 : (cc != 0) = true := by simpa using h0
        have hss : (cc != cc) = false := by simp
        clear C Gp oR hr0 hS0 h0
        subst hx
        go_wp2_with fail
        go_meet
        exact ⟨by first | rfl | simp, hPc⟩
     case rest =>
      obtain ⟨rfl, hPd⟩ := hcut
      clear hPc
      generalize wc = W4 at hPd ⊢
      go_step
      have Gq := C.gq
      go_upto_region 8 with fail
      go_cut [12, 13, 14, 15] from 21 (fun s12 s13 s14 s15 wr => R wr ∧ ∃ g B d, s12 = .pointer (some ⟨g, 0, none⟩) ∧ s13 = .slice B mp d ∧ s14 = .int .i64 pa ∧ s15 = .int .i64 pe ∧ Bk wr g 46 tq.toArray ∧ RdC wr B lp)
      case first =>
       as_aux_lemma =>
        have h28 := C.h28
        have hP4 := (oR.out.1 _ hPd).1
        clear C Gp Gt
        go_wp2_with (first
         | (go_at_call 28; (with_reducible refine (h28 _ hP4).mono ?_); rintro e w2 ⟨⟨B, d, rfl, hr2⟩, hb2⟩; have hR2 := kR _ _ hPd hb2; have hb := Bk.new w2 46 z36)
         | (refine wpList_store_mid rfl 46 (.tmp 12) (.tmp 92) rfl w2.heap.size 0 tq.toArray rfl rfl (hb.there _ (by rw [Gq.s36]; decide)) Gq.i46 Gq.one ?_))
        go_meet
        exact ⟨oR.out.2 _ _ _ (kR _ _ hR2 (bt_new w2 _)) (oR.out.1 _ hR2).2.2.2, w2.heap.size, B, d, rfl, rfl, rfl, rfl, new_teams46 w2 tq Gq.s36, new_rdc46 w2 tq hr2⟩
      case rest =>
       obtain ⟨hR5, g12, B2, d2, rfl, rfl, rfl, rfl, hb12, hr12⟩ := hcut
       clear hPd
       generalize wc = W5 at hR5 hb12 hr12 ⊢
       obtain ⟨Q, kQ, hQ, oQ⟩ : ∃ Q : World → Prop, Keep Q ∧ Q W5 ∧ Hid (∀ X, Q X → R X ∧ Bk X g12 46 tq.toArray ∧ RdC X B2 lp) :=
        ⟨fun X => R X ∧ Below W5.heap.size W5 X, keep_and kR (keep_below W5), ⟨hR5, Below.refl _ _⟩, fun X h => ⟨h.1, hb12.below h.2 hb12.lt, hr12.below h.2⟩⟩
       clear hR5 hb12 hr12
       have H31 : Hid (∀ W, Q W → Calls Tryz.prog 31 #[.slice B1 mp d1] W fun x w' => (∃ A' c', x = .returned (.slice A' mp c') ∧ RdC w' A' lp) ∧ Below W.heap.size W w') := fun W h =>
        (changes_any lp B1 mp d1 hlm.out.1 hlm.out.2 W (oR.out.1 W (oQ.out W h).1).2.2.1).mono fun x w' ⟨⟨v, e, hv⟩, hb⟩ => by
         obtain ⟨hx, A', c', rfl, hr⟩ := hv
         exact ⟨⟨A', c', e, RdC.of_slk ⟨hx, A', c', rfl, hr⟩⟩, hb⟩
       have H30 : Hid (∀ W A' c', Q W → RdC W A' lp → Calls Tryz.prog 30 #[.slice A' mp c', .slice B2 mp d2] W fun x w' => x = .returned (.bool true) ∧ Below W.heap.size W w') := fun W A' c' h hr =>
        (sameChanges_any lp lp A' B2 mp mp c' d2 W hlm.out.1 hlm.out.1 hlm.out.2 hr (oQ.out W h).2.2).mono fun x w' ⟨e, q, e2⟩ => ⟨by rw [e]; simp, by rw [e2]; exact bt_drewN (Below.refl _ _) q⟩
       have HG : Hid (∀ X, Q X → X.rangeAt g7 0 tq ∧ X.rangeAt g12 0 tq) := fun X h => ⟨bkRangeT (oR.out.1 _ (oQ.out X h).1).2.1, bkRangeT (oQ.out X h).2.1⟩
       have HB : Hid (∀ X, Q X → Below w.heap.size w X) := fun X h => Gp.below _ (oR.out.1 _ (oQ.out X h).1).1
       have l54 := Lib.hid Gq.l54; have l46 := Lib.hid Gq.l46
       clear C Gp Gt Gq oR oQ kR
       go_upto_region 9 with fail
       have hS0 := kQ _ _ hQ (bt_drew (Below.refl _ W5))
       refine wp_region_held_drew (S := (fun X => Q X)) (by kernel_rfl) (hS0) (fun hHeld => ?_)
       refine ldE (i := 0) rfl rfl rfl (tq) (fun W h => (HG.out W h).1) Tryz.underlying54 rfl (l54.out) ?_
       refine ldE (i := 2) rfl rfl rfl (tq) (fun W h => (HG.out W h).2) Tryz.underlying46 rfl (l46.out) ?_
       refine rdE (i := 1) rfl (fun K hK => ?_)
       go_simp
       (go_at_call 29; refine (Otq.out _).mono ?_; rintro e w3 ⟨rfl, hb3⟩)
       go_wp2_with fail
       refine onE hK (kQ _ _ hHeld hb3) (fun hHeld => ?_)
       clear hK K
       have e1 := Etq.out
       refine tkE (i := 3) rfl ?_
       clear e1
       refine tkE (i := 4) rfl ?_
       refine tkE (i := 5) rfl ?_
       refine tkE (i := 7) rfl ?_
       refine rdE (i := 6) rfl (fun K hK => ?_)
       go_simp
       (go_at_call 31; with_reducible refine (H31.out _ hHeld).mono ?_; rintro e w4 ⟨⟨A4, c4, rfl, hr4⟩, hb4⟩)
       go_wp2_with fail
       refine onE hK (kQ _ _ hHeld hb4) (fun hHeld => ?_)
       clear hK K
       refine rdE (i := 8) rfl (fun K hK => ?_)
       go_simp
       (go_at_call 30; with_reducible refine (H30.out _ _ _ hHeld hr4).mono ?_; rintro e w5 ⟨rfl, hb5⟩)
       go_wp2_with fail
       refine onE hK (kQ _ _ hHeld hb5) (fun hHeld => ?_)
       clear hK K
       refine tkE (i := 9) rfl ?_
       refine tkE (i := 10) rfl ?_
       refine tkE (i := 11) rfl ?_
       refine tkE (i := 12) rfl ?_
       refine tkE (i := 13) rfl ?_
       refine tkE (i := 14) rfl ?_
       refine tkE (i := 15) rfl ?_
       refine tkE (i := 16) rfl ?_
       refine tkE (i := 17) rfl ?_
       refine tkE (i := 18) rfl ?_
       refine tkE (i := 19) rfl ?_
       refine tkE (i := 20) rfl ?_
       refine wpAnyH_done (by kernel_rfl) ?_ _
       go_wp2_with fail
       go_ret
       exact ⟨ret_bool (by first | rfl | simp), HB.out _ hHeld⟩
end Go.Proofs.YtmagppkclnebjaaGreatDoor
