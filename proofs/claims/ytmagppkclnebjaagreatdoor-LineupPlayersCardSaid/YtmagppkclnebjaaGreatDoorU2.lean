/- dugoutlaw03.LineupPlayers: it returns true at every game, pair of numbers and string. -/
import Derived.Test.YtmagppkclnebjaaGreatDoorU1
import Derived.Test.YtmagppkclnebjaaGreatDoorB9
import Derived.Deep.Cut
import Derived.Deep.CutRange
import Derived.BigQuiet
set_option linter.unusedVariables false
set_option linter.unusedSimpArgs false
set_option linter.unusedSimpArgs false
set_option linter.unusedVariables false
namespace Go.Proofs.YtmagppkclnebjaaGreatDoor
open Go.RowKit
open L

set_option maxHeartbeats 60000000 in
set_option maxRecDepth 100000 in
theorem ply_main (P : World → Prop) (w : World) (tc ta xc : List Value) (A : Option Addr) (n c : Nat) (x0 x1 : Int) (name : Str) (nm : Bool) (l : List Chg) (cc bad two one3 three3 : Int) (sv se : Int) (GN : List Str) (gm : Nat) (cv ce : Int) (N0 N1 : List Str) (m0 m1 : Nat)
 (Gp : GP w tc A n c 2 P) (Gt : TC tc) (C : PlyC P (w.heap.size + 1) tc ta xc A n c x0 x1 name nm l cc bad two one3 three3 sv se GN gm cv ce N0 N1 m0 m1) (hnm : name.size ≤ 60) (h20 : x0 ≤ 20 ∨ 256 < x0) (G : Array Value) (hP : P ((w.alloc (.cells G 49)).alloc (.cells #[.int .i64 x0, .int .i64 x1] 95))) :
 Calls Tryz.prog 9 #[.agg G, .agg #[.int .i64 x0, .int .i64 x1], .string name] w fun x w' => x = .returned (.bool true) ∧ Below w.heap.size w w' := by
 go_enter Tryz.func9, Tryz.ntmps9
 go_upto_region 1 with fail
 generalize ((w.alloc (.cells G 49)).alloc (.cells #[.int .i64 x0, .int .i64 x1] 95)) = W0 at hP ⊢
 go_cut [43] from 22 to 43 (fun s43 wr => s43 = .bool false ∧ P wr)
 case first =>
  as_aux_lemma =>
   have hgr := Gp.rg
   have hi49 := Gp.i49
   have h21 := C.h21
   have a0 : ¬ (60 : Int) < (name.size : Int) := by omega
   have b0 : decide ((60 : Int) < (name.size : Int)) = false := decide_eq_false a0
   generalize (tc ++ [Value.slice A n c]) = gc at hgr hi49 h21
   rcases h20 with h20 | h20
   ·
    have a1 : ¬ (20 : Int) < x0 := by omega
    have b1 : decide ((20 : Int) < x0) = false := decide_eq_false a1
    clear h20 hnm
    go_wp2_with (first
     | (go_at_call 13; refine (C.h13 _ hP).mono ?_; rintro e w1 ⟨rfl, hb1⟩; have hP1 := Gp.kp _ _ hP hb1)
     | (refine wpList_load_cells_g 49 _ rfl w.heap.size 0 rfl gc (fun j hj => by rw [List.getElem?_eq_getElem hj]; exact hgr _ hP1 j _ (List.getElem?_eq_getElem hj)) _ Tryz.underlying49 rfl hi49 rfl ?_))
    refine (h21 _ hP1).mono ?_
    rintro e w2 ⟨rfl, hb2⟩
    have hP2 := Gp.kp _ _ hP1 hb2
    have c0 := (C.hx _ hP2).1
    go_wp2_with fail
    go_meet
    exact ⟨by first | rfl | simp, hP2⟩
   ·
    have a1 : (20 : Int) < x0 := by omega
    have b1 : decide ((20 : Int) < x0) = true := decide_eq_true a1
    have a2 : ¬ x0 ≤ 256 := by omega
    have b2 : decide (x0 ≤ 256) = false := decide_eq_false a2
    clear h20 hnm
    go_wp2_with (first
     | (go_at_call 13; refine (C.h13 _ hP).mono ?_; rintro e w1 ⟨rfl, hb1⟩; have hP1 := Gp.kp _ _ hP hb1)
     | (refine wpList_load_cells_g 49 _ rfl w.heap.size 0 rfl gc (fun j hj => by rw [List.getElem?_eq_getElem hj]; exact hgr _ hP1 j _ (List.getElem?_eq_getElem hj)) _ Tryz.underlying49 rfl hi49 rfl ?_))
    refine (h21 _ hP1).mono ?_
    rintro e w2 ⟨rfl, hb2⟩
    have hP2 := Gp.kp _ _ hP1 hb2
    have c0 := (C.hx _ hP2).1
    go_wp2_with fail
    go_meet
    exact ⟨by first | rfl | simp, hP2⟩
 case rest =>
  obtain ⟨rfl, hPc⟩ := hcut
  clear hP h20 hnm
  revert hPc
  generalize wc = W0
  intro hP
  go_upto_region 3 with fail
  go_cut [7, 8] from 45 to 50 (fun s7 s8 wr => P wr ∧ ∃ g B d, s7 = .pointer (some ⟨g, 0, none⟩) ∧ s8 = .slice B n d ∧ Bk wr g 54 tc.toArray ∧ RdC wr B l)
  case first =>
   as_aux_lemma =>
    have hS0 : W0.drew.cell? ⟨w.heap.size, 36, none⟩ = some (.slice A n c) ∧ P W0.drew := ⟨Gp.c36 _ (Gp.kp _ _ hP (bt_drew (Below.refl _ W0))), Gp.kp _ _ hP (bt_drew (Below.refl _ W0))⟩
    refine wp_region_held_drew (S := (fun X => X.cell? ⟨w.heap.size, 36, none⟩ = some (.slice A n c) ∧ P X)) (by kernel_rfl) (hS0) (fun hHeld => ?_)
    refine tkE (i := 0) rfl ?_
    refine ldE (i := 1) rfl rfl rfl (tc) (fun W h => Gp.r W h.2) Tryz.underlying46 rfl (Gt.l46) ?_
    refine tkE (i := 3) rfl ?_
    refine tkE (i := 4) rfl ?_
    refine rdE2 (i := 2) (j := 6) rfl rfl (fun K hK => ?_) (fun K hK => ?_)
    ·
     go_simp
     go_at_call 23
     refine (C.h23 _).mono ?_
     rintro e w2 ⟨rfl, hb2⟩
     go_wp2_with fail
     have hP2 := Gp.kp _ _ hHeld.2 hb2
     refine onE hK ⟨Gp.c36 _ hP2, hP2⟩ (fun hHeld => ?_)
     clear hK K hb2 hS0
     refine rdE2 (i := 5) (j := 6) rfl rfl (fun K hK => ?_) (fun K hK => ?_)
     ·
      go_simp
      go_at_call 24
      refine (C.h24 _ hP2).mono ?_
      rintro e w3 ⟨⟨B, d, rfl, hr3, hge3⟩, hb3⟩
      go_wp2_with fail
      have hP3 := Gp.kp _ _ hP2 hb3
      refine onE hK ⟨Gp.c36 _ hP3, hP3⟩ (fun hHeld => ?_)
      clear hK K hb3 hP2
      have hPX := Gp.kp _ _ hP3 (bt_new w3 (.cells #[.string { data := #[] }, .string { data := #[] }, .string { data := #[] }, .string { data := #[] }, .string { data := #[] }, .string { data := #[] }, .string { data := #[] }, .string { data := #[] }, .string { data := #[] }, .int .i64 0, .int .i64 0, .int .i64 0, .int .i64 0, .int .i64 0, .int .i64 0, .int .i64 0, .int .i64 0, .int .i64 0, .string { data := #[] }, .string { data := #[] }, .string { data := #[] }, .string { data := #[] }, .string { data := #[] }, .string { data := #[] }, .string { data := #[] }, .string { data := #[] }, .string { data := #[] }, .int .i64 0, .int .i64 0, .int .i64 0, .int .i64 0, .int .i64 0, .int .i64 0, .int .i64 0, .int .i64 0, .int .i64 0] 54))
      refine rdE (i := 6) rfl (fun K hK => ?_)
      go_simp
      refine onE hK (⟨Gp.c36 _ hPX, hPX⟩) (fun hHeld => ?_)
      clear hK K
      have hlo := Gp.lo _ hP3
      have hb := Bk.new w3 54 #[.string { data := #[] }, .string { data := #[] }, .string { data := #[] }, .string { data := #[] }, .string { data := #[] }, .string { data := #[] }, .string { data := #[] }, .string { data := #[] }, .string { data := #[] }, .int .i64 0, .int .i64 0, .int .i64 0, .int .i64 0, .int .i64 0, .int .i64 0, .int .i64 0, .int .i64 0, .int .i64 0, .string { data := #[] }, .string { data := #[] }, .string { data := #[] }, .string { data := #[] }, .string { data := #[] }, .string { data := #[] }, .string { data := #[] }, .string { data := #[] }, .string { data := #[] }, .int .i64 0, .int .i64 0, .int .i64 0, .int .i64 0, .int .i64 0, .int .i64 0, .int .i64 0, .int .i64 0, .int .i64 0]
      have hr := hr3.below (bt_new w3 (.cells #[.string { data := #[] }, .string { data := #[] }, .string { data := #[] }, .string { data := #[] }, .string { data := #[] }, .string { data := #[] }, .string { data := #[] }, .string { data := #[] }, .string { data := #[] }, .int .i64 0, .int .i64 0, .int .i64 0, .int .i64 0, .int .i64 0, .int .i64 0, .int .i64 0, .int .i64 0, .int .i64 0, .string { data := #[] }, .string { data := #[] }, .string { data := #[] }, .string { data := #[] }, .string { data := #[] }, .string { data := #[] }, .string { data := #[] }, .string { data := #[] }, .string { data := #[] }, .int .i64 0, .int .i64 0, .int .i64 0, .int .i64 0, .int .i64 0, .int .i64 0, .int .i64 0, .int .i64 0, .int .i64 0] 54))
      have hne : ∀ a, B = some a → a.block ≠ w3.heap.size := fun a e => by have := (hge3 a e).2; omega
      clear hr3 hge3 hP3 hHeld
      generalize (w3.alloc (.cells #[.string { data := #[] }, .string { data := #[] }, .string { data := #[] }, .string { data := #[] }, .string { data := #[] }, .string { data := #[] }, .string { data := #[] }, .string { data := #[] }, .string { data := #[] }, .int .i64 0, .int .i64 0, .int .i64 0, .int .i64 0, .int .i64 0, .int .i64 0, .int .i64 0, .int .i64 0, .int .i64 0, .string { data := #[] }, .string { data := #[] }, .string { data := #[] }, .string { data := #[] }, .string { data := #[] }, .string { data := #[] }, .string { data := #[] }, .string { data := #[] }, .string { data := #[] }, .int .i64 0, .int .i64 0, .int .i64 0, .int .i64 0, .int .i64 0, .int .i64 0, .int .i64 0, .int .i64 0, .int .i64 0] 54)) = X at hPX hb hr ⊢
      generalize w3.heap.size = g at hb hlo hne ⊢
      refine rdE (i := 7) rfl (fun K hK => ?_)
      refine step_store rfl 54 _ _ rfl g 0 tc.toArray rfl rfl (hb.there _ (by rw [Gt.s36]; decide)) Gt.i54 Gt.one ?_
      have hPS := Gp.sets _ g tc hPX hlo
      refine onE hK ⟨Gp.c36 _ hPS, hPS⟩ (fun hHeld => ?_)
      clear hK K
      refine rdE (i := 8) rfl (fun K hK => ?_)
      go_simp
      refine onE hK (hHeld) (fun hHeld => ?_)
      clear hK K
      refine wpAnyH_done (by kernel_rfl) ?_ _
      go_wp2_with fail
      go_meet
      exact ⟨hPS, g, B, d, rfl, rfl, hb.fill tc.toArray (by rw [Gt.s36]; rfl), rdc_sets hr hne tc⟩
     ·
      go_simp
      have hPn := Gp.kp _ _ hP2 (bt_new w2 (.cells #[.string { data := #[] }, .string { data := #[] }, .string { data := #[] }, .string { data := #[] }, .string { data := #[] }, .string { data := #[] }, .string { data := #[] }, .string { data := #[] }, .string { data := #[] }, .int .i64 0, .int .i64 0, .int .i64 0, .int .i64 0, .int .i64 0, .int .i64 0, .int .i64 0, .int .i64 0, .int .i64 0, .string { data := #[] }, .string { data := #[] }, .string { data := #[] }, .string { data := #[] }, .string { data := #[] }, .string { data := #[] }, .string { data := #[] }, .string { data := #[] }, .string { data := #[] }, .int .i64 0, .int .i64 0, .int .i64 0, .int .i64 0, .int .i64 0, .int .i64 0, .int .i64 0, .int .i64 0, .int .i64 0] 54))
      refine onE hK ⟨Gp.c36 _ hPn, hPn⟩ (fun hHeld => ?_)
      clear hK K
      have hlo := Gp.lo _ hP2
      have hb0 := Bk.new w2 54 #[.string { data := #[] }, .string { data := #[] }, .string { data := #[] }, .string { data := #[] }, .string { data := #[] }, .string { data := #[] }, .string { data := #[] }, .string { data := #[] }, .string { data := #[] }, .int .i64 0, .int .i64 0, .int .i64 0, .int .i64 0, .int .i64 0, .int .i64 0, .int .i64 0, .int .i64 0, .int .i64 0, .string { data := #[] }, .string { data := #[] }, .string { data := #[] }, .string { data := #[] }, .string { data := #[] }, .string { data := #[] }, .string { data := #[] }, .string { data := #[] }, .string { data := #[] }, .int .i64 0, .int .i64 0, .int .i64 0, .int .i64 0, .int .i64 0, .int .i64 0, .int .i64 0, .int .i64 0, .int .i64 0]
      clear hP2 hHeld
      generalize (w2.alloc (.cells #[.string { data := #[] }, .string { data := #[] }, .string { data := #[] }, .string { data := #[] }, .string { data := #[] }, .string { data := #[] }, .string { data := #[] }, .string { data := #[] }, .string { data := #[] }, .int .i64 0, .int .i64 0, .int .i64 0, .int .i64 0, .int .i64 0, .int .i64 0, .int .i64 0, .int .i64 0, .int .i64 0, .string { data := #[] }, .string { data := #[] }, .string { data := #[] }, .string { data := #[] }, .string { data := #[] }, .string { data := #[] }, .string { data := #[] }, .string { data := #[] }, .string { data := #[] }, .int .i64 0, .int .i64 0, .int .i64 0, .int .i64 0, .int .i64 0, .int .i64 0, .int .i64 0, .int .i64 0, .int .i64 0] 54)) = Wn at hPn hb0 ⊢
      generalize w2.heap.size = g at hb0 hlo ⊢
      refine rdE (i := 5) rfl (fun K hK => ?_)
      go_simp
      go_at_call 24
      refine (C.h24 _ hPn).mono ?_
      rintro e X ⟨⟨B, d, rfl, hr, hge3⟩, hb3⟩
      go_wp2_with fail
      have hPX := Gp.kp _ _ hPn hb3
      refine onE hK ⟨Gp.c36 _ hPX, hPX⟩ (fun hHeld => ?_)
      clear hK K hHeld
      have hb := hb0.below hb3 hb0.lt
      have hne : ∀ a, B = some a → a.block ≠ g := fun a e => by have := (hge3 a e).1; have := hb0.lt; omega
      clear hge3 hPn hb0 hb3
      refine rdE (i := 7) rfl (fun K hK => ?_)
      refine step_store rfl 54 _ _ rfl g 0 tc.toArray rfl rfl (hb.there _ (by rw [Gt.s36]; decide)) Gt.i54 Gt.one ?_
      have hPS := Gp.sets _ g tc hPX hlo
      refine onE hK ⟨Gp.c36 _ hPS, hPS⟩ (fun hHeld => ?_)
      clear hK K
      refine rdE (i := 8) rfl (fun K hK => ?_)
      go_simp
      refine onE hK (hHeld) (fun hHeld => ?_)
      clear hK K
      refine wpAnyH_done (by kernel_rfl) ?_ _
      go_wp2_with fail
      go_meet
      exact ⟨hPS, g, B, d, rfl, rfl, hb.fill tc.toArray (by rw [Gt.s36]; rfl), rdc_sets hr hne tc⟩
    ·
     go_simp
     have hPn : P (W0.alloc (.cells #[.string { data := #[] }, .string { data := #[] }, .string { data := #[] }, .string { data := #[] }, .string { data := #[] }, .string { data := #[] }, .string { data := #[] }, .string { data := #[] }, .string { data := #[] }, .int .i64 0, .int .i64 0, .int .i64 0, .int .i64 0, .int .i64 0, .int .i64 0, .int .i64 0, .int .i64 0, .int .i64 0, .string { data := #[] }, .string { data := #[] }, .string { data := #[] }, .string { data := #[] }, .string { data := #[] }, .string { data := #[] }, .string { data := #[] }, .string { data := #[] }, .string { data := #[] }, .int .i64 0, .int .i64 0, .int .i64 0, .int .i64 0, .int .i64 0, .int .i64 0, .int .i64 0, .int .i64 0, .int .i64 0] 54)).drew := Gp.kp _ _ hP (bt_drew (bt_new W0 _))
     refine onE hK ⟨Gp.c36 _ hPn, hPn⟩ (fun hHeld => ?_)
     clear hK K hS0
     have hb0 := (Bk.new W0 54 #[.string { data := #[] }, .string { data := #[] }, .string { data := #[] }, .string { data := #[] }, .string { data := #[] }, .string { data := #[] }, .string { data := #[] }, .string { data := #[] }, .string { data := #[] }, .int .i64 0, .int .i64 0, .int .i64 0, .int .i64 0, .int .i64 0, .int .i64 0, .int .i64 0, .int .i64 0, .int .i64 0, .string { data := #[] }, .string { data := #[] }, .string { data := #[] }, .string { data := #[] }, .string { data := #[] }, .string { data := #[] }, .string { data := #[] }, .string { data := #[] }, .string { data := #[] }, .int .i64 0, .int .i64 0, .int .i64 0, .int .i64 0, .int .i64 0, .int .i64 0, .int .i64 0, .int .i64 0, .int .i64 0]).drew
     have hlo := Gp.lo _ hP
     clear hHeld hP
     generalize (W0.alloc (.cells #[.string { data := #[] }, .string { data := #[] }, .string { data := #[] }, .string { data := #[] }, .string { data := #[] }, .string { data := #[] }, .string { data := #[] }, .string { data := #[] }, .string { data := #[] }, .int .i64 0, .int .i64 0, .int .i64 0, .int .i64 0, .int .i64 0, .int .i64 0, .int .i64 0, .int .i64 0, .int .i64 0, .string { data := #[] }, .string { data := #[] }, .string { data := #[] }, .string { data := #[] }, .string { data := #[] }, .string { data := #[] }, .string { data := #[] }, .string { data := #[] }, .string { data := #[] }, .int .i64 0, .int .i64 0, .int .i64 0, .int .i64 0, .int .i64 0, .int .i64 0, .int .i64 0, .int .i64 0, .int .i64 0] 54)).drew = Wn at hPn hb0 ⊢
     generalize W0.heap.size = g at hb0 hlo ⊢
     refine rdE (i := 2) rfl (fun K hK => ?_)
     go_simp
     go_at_call 23
     refine (C.h23 _).mono ?_
     rintro e w2 ⟨rfl, hb2⟩
     go_wp2_with fail
     have hP2 := Gp.kp _ _ hPn hb2
     have hbk2 := hb0.below hb2 hb0.lt
     refine onE hK ⟨Gp.c36 _ hP2, hP2⟩ (fun hHeld => ?_)
     clear hK K hHeld hPn hb0 hb2
     refine rdE (i := 5) rfl (fun K hK => ?_)
     go_simp
     go_at_call 24
     refine (C.h24 _ hP2).mono ?_
     rintro e X ⟨⟨B, d, rfl, hr, hge3⟩, hb3⟩
     go_wp2_with fail
     have hPX := Gp.kp _ _ hP2 hb3
     refine onE hK ⟨Gp.c36 _ hPX, hPX⟩ (fun hHeld => ?_)
     clear hK K hHeld
     have hb := hbk2.below hb3 hbk2.lt
     have hne : ∀ a, B = some a → a.block ≠ g := fun a e => by have := (hge3 a e).1; have := hbk2.lt; omega
     clear hge3 hP2 hbk2 hb3
     refine rdE (i := 7) rfl (fun K hK => ?_)
     refine step_store rfl 54 _ _ rfl g 0 tc.toArray rfl rfl (hb.there _ (by rw [Gt.s36]; decide)) Gt.i54 Gt.one ?_
     have hPS := Gp.sets _ g tc hPX hlo
     refine onE hK ⟨Gp.c36 _ hPS, hPS⟩ (fun hHeld => ?_)
     clear hK K
     refine rdE (i := 8) rfl (fun K hK => ?_)
     go_simp
     refine onE hK (hHeld) (fun hHeld => ?_)
     clear hK K
     refine wpAnyH_done (by kernel_rfl) ?_ _
     go_wp2_with fail
     go_meet
     exact ⟨hPS, g, B, d, rfl, rfl, hb.fill tc.toArray (by rw [Gt.s36]; rfl), rdc_sets hr hne tc⟩
  case rest =>
   obtain ⟨hPc, g5, B, d, rfl, rfl, hb5, hr5⟩ := hcut
   obtain ⟨P1, kP1, hP1, oP1⟩ : ∃ P1 : World → Prop, Keep P1 ∧ P1 wc ∧ Hid (∀ X, P1 X → P X ∧ Bk X g5 54 tc.toArray ∧ RdC X B l) := ⟨fun X => P X ∧ Bk X g5 54 tc.toArray ∧ RdC X B l, keep_and Gp.kp (keep_and (keep_bk _ _ _) (keep_rdc _ _)), ⟨hPc, hb5, hr5⟩, fun _ h => h⟩
   clear hPc hb5 hr5 hP
   generalize wc = W1 at hP1 ⊢
   obtain ⟨c0, c1⟩ := C.hx _ (oP1.out _ hP1).1
   have hb5 := (oP1.out _ hP1).2.1
   have hr5 := (oP1.out _ hP1).2.2
   go_upto_region 5 with (first
    | (refine wpList_load_row rfl 54 _ rfl g5 rfl 54 tc.toArray (0, 0) _ hb5 Tryz.underlying54 rfl Gt.i54 ?_)
    | (go_at_call 49; (with_reducible refine (C.h49 _ _ _ hr5).mono ?_); rintro e w4 ⟨rfl, hb4⟩))
   have hP4 := kP1 _ _ hP1 hb4
   clear hP1 hb4 c0 c1 hb5 hr5
   obtain ⟨c0, c1⟩ := C.hx _ (oP1.out _ hP4).1
   have hb5 := (oP1.out _ hP4).2.1
   have hr5 := (oP1.out _ hP4).2.2
   go_upto_region 6 with (first
    | (refine wpList_load_row rfl 54 _ rfl g5 rfl 54 tc.toArray (0, 0) _ hb5 Tryz.underlying54 rfl Gt.i54 ?_)
    | (go_at_call 50; (with_reducible refine (C.h50 _ _ _ hr5).mono ?_); rintro e w5 ⟨⟨B0, d0, rfl, hr0⟩, hb⟩))
   have hP5 := kP1 _ _ hP4 hb
   clear hP4 hb c0 c1 hb5 hr5
   obtain ⟨P2, kP2, hP2, oP2⟩ : ∃ P2 : World → Prop, Keep P2 ∧ P2 w5 ∧ Hid (∀ X, P2 X → P1 X ∧ Rd X B0 (GN.map .string)) := ⟨fun X => P1 X ∧ Rd X B0 (GN.map .string), keep_and kP1 (keep_rd _ _), ⟨hP5, hr0⟩, fun _ h => h⟩
   clear hP5 hr0
   obtain ⟨c0, c1⟩ := C.hx _ (oP1.out _ (oP2.out _ hP2).1).1
   have hb5 := (oP1.out _ (oP2.out _ hP2).1).2.1
   have hr5 := (oP1.out _ (oP2.out _ hP2).1).2.2
   go_upto_region 7 with (first
    | (refine wpList_load_row rfl 54 _ rfl g5 rfl 54 tc.toArray (0, 0) _ hb5 Tryz.underlying54 rfl Gt.i54 ?_)
    | (go_at_call 51; (with_reducible refine (C.h51 _ _ _ hr5).mono ?_); rintro e w6 ⟨rfl, hb⟩))
   have hP6 := kP2 _ _ hP2 hb
   clear hP2 hb c0 c1 hb5 hr5
   have HP0 : Hid (∀ X, P2 X → P X) := fun X h => (oP1.out _ (oP2.out _ h).1).1
   have HRd : Hid (∀ X, P2 X → Rd X B0 (GN.map .string)) := fun X h => (oP2.out _ h).2
   clear oP2 oP1 kP1
   have HS : Hid (∀ X, P2 X → (X.cell? ⟨w.heap.size, 36, none⟩ = some (.slice A n c) ∧ X.cell? ⟨w.heap.size + 1, 0, none⟩ = some (.int .i64 x0) ∧ X.cell? ⟨w.heap.size + 1, 1, none⟩ = some (.int .i64 x1)) ∧ P2 X) := fun X h => ⟨⟨Gp.c36 _ (HP0.out _ h), (C.hx _ (HP0.out _ h)).1, (C.hx _ (HP0.out _ h)).2⟩, h⟩
   have HG : Hid (∀ X, P2 X → X.rangeAt w.heap.size 0 tc) := fun X h => Gp.r _ (HP0.out _ h)
   generalize w6 = W6 at hP6 ⊢
   go_upto_region 7 with fail
   go_cut [15] from 51 to 90 (fun s15 wr => s15 = .int .i64 bad ∧ P2 wr)
   case first =>
    as_aux_lemma =>
     have hS0 := HS.out _ (kP2 _ _ hP6 (bt_drew (Below.refl _ W6)))
     refine wp_region_held_drew (S := (fun X => (X.cell? ⟨w.heap.size, 36, none⟩ = some (.slice A n c) ∧ X.cell? ⟨w.heap.size + 1, 0, none⟩ = some (.int .i64 x0) ∧ X.cell? ⟨w.heap.size + 1, 1, none⟩ = some (.int .i64 x1)) ∧ P2 X)) (by kernel_rfl) (hS0) (fun hHeld => ?_)
     refine tkE (i := 0) rfl ?_
     refine ldE (i := 1) rfl rfl rfl (tc) (fun W h => HG.out W h.2) Tryz.underlying46 rfl (Gt.l46) ?_
     refine tkE (i := 2) rfl ?_
     refine tkE (i := 3) rfl ?_
     refine tkE (i := 5) rfl ?_
     refine tkE (i := 6) rfl ?_
     refine rdE (i := 4) rfl (fun K hK => ?_)
     go_simp
     (go_at_call 26; refine (C.h26 _ (HP0.out _ hHeld.2)).mono ?_; rintro e w8 ⟨rfl, hb8⟩)
     go_wp2_with fail
     refine onE hK (HS.out _ (kP2 _ _ hHeld.2 hb8)) (fun hHeld => ?_)
     clear hK K
     refine rdE (i := 7) rfl (fun K hK => ?_)
     go_simp
     (go_at_call 39; refine (refRange_any _ _ _ _).mono ?_; rintro e w9 ⟨rfl, rfl⟩)
     go_wp2_with fail
     refine onE hK (hHeld) (fun hHeld => ?_)
     clear hK K
     refine rdE (i := 8) rfl (fun K hK => ?_)
     go_simp
     refine onE hK (HS.out _ (kP2 _ _ hHeld.2 (bt_new _ _))) (fun hHeld => ?_)
     clear hK K
     refine rdE (i := 9) rfl (fun K hK => ?_)
     go_simp
     (go_at_call 38; refine (lfirst2 _ _ _ _ _ _ (by exact heap_alloc_new _ _)).mono ?_; rintro e w' ⟨rfl, rfl⟩)
     go_wp2_with fail
     refine onE hK (hHeld) (fun hHeld => ?_)
     clear hK K
     refine tkE (i := 10) rfl ?_
     refine wpAnyH_done (by kernel_rfl) ?_ _
     go_wp2_with fail
     go_meet
     exact ⟨by rw [C.hbad], hHeld.2⟩
   case rest =>
    as_aux_lemma =>
     obtain ⟨rfl, hPc⟩ := hcut
     clear hP6
     generalize wc = W8 at hPc ⊢
     go_upto_region 9 with fail
     obtain ⟨⟨_, c0, c1⟩, _⟩ := HS.out _ hPc
     go_cut [103] from 91 to 103 (fun s103 wr => s103 = .bool (decide (bad = 0 ∧ x1 ≠ 0 ∧ x1 ≠ 1)) ∧ P2 wr)
     case first =>
      as_aux_lemma =>
       by_cases h0 : bad = 0
       ·
        have hz : (bad == 0) = true := by simpa using h0
        by_cases h1 : x1 = 0
        ·
         have hz1 : (x1 != 0) = false := by simpa using h1
         have he : Hid (decide (bad = 0 ∧ x1 ≠ 0 ∧ x1 ≠ 1) = false) := by show _ = _; simp [h1]
         clear h0 h1
         go_wp2
         go_meet
         exact ⟨by rw [he.out], hPc⟩
        ·
         have hz1 : (x1 != 0) = true := by simpa using h1
         by_cases h2 : x1 = 1
         ·
          have hz2 : (x1 != 1) = false := by simpa using h2
          have he : Hid (decide (bad = 0 ∧ x1 ≠ 0 ∧ x1 ≠ 1) = false) := by show _ = _; simp [h2]
          clear h0 h1 h2
          go_wp2
          go_meet
          exact ⟨by rw [he.out], hPc⟩
         ·
          have hz2 : (x1 != 1) = true := by simpa using h2
          have he : Hid (decide (bad = 0 ∧ x1 ≠ 0 ∧ x1 ≠ 1) = true) := by show _ = _; simp [h0, h1, h2]
          clear h0 h1 h2
          go_wp2
          go_meet
          exact ⟨by rw [he.out], hPc⟩
       ·
        have hz : (bad == 0) = false := by simpa using h0
        have he : Hid (decide (bad = 0 ∧ x1 ≠ 0 ∧ x1 ≠ 1) = false) := by show _ = _; simp [h0]
        clear h0
        go_wp2
        go_meet
        exact ⟨by rw [he.out], hPc⟩
     case rest =>
     obtain ⟨rfl, hPd⟩ := hcut
     clear hPc c0 c1
     generalize wc = W9 at hPd ⊢
     go_step
     go_cut [16] from 103 to 103 (fun s16 wr => s16 = .int .i64 two ∧ P2 wr)
     case first =>
      as_aux_lemma =>
       by_cases hq : bad = 0 ∧ x1 ≠ 0 ∧ x1 ≠ 1
       ·
        have he : Hid (two = 17) := by show _ = _; rw [← C.htwo]; unfold sideE; rw [if_pos hq]
        rw [decide_eq_true hq]
        clear hq
        go_wp2
        go_meet
        exact ⟨by rw [he.out], hPd⟩
       ·
        have he : Hid (two = bad) := by show _ = _; rw [← C.htwo]; unfold sideE; rw [if_neg hq]
        rw [decide_eq_false hq]
        clear hq
        go_wp2
        go_meet
        exact ⟨by rw [he.out], hPd⟩
     case rest =>
     obtain ⟨rfl, hPc⟩ := hcut
     clear hPd
     generalize wc = W10 at hPc ⊢
     go_upto_region 12 with fail
     go_cut [108] from 104 to 108 (fun s108 wr => s108 = .bool (!nm) ∧ P2 wr)
     case first =>
      as_aux_lemma =>
       go_wp2_with (go_at_call 52; refine (C.h52 _).mono ?_; rintro e w' ⟨rfl, rfl⟩)
       go_meet
       exact ⟨rfl, hPc⟩
     case rest =>
     obtain ⟨rfl, hPd⟩ := hcut
     clear hPc
     generalize wc = W11 at hPd ⊢
     go_step
     go_cut [17, 18] from 108 to 114 (fun s17 s18 wr => s17 = .int .i64 one3 ∧ s18 = .int .i64 three3 ∧ P2 wr)
     case first =>
      as_aux_lemma =>
       have e1 := Lib.hid C.hone
       have e3 := Lib.hid C.hthree
       clear C HP0 HRd HS HG
       cases nm
       ·
        have he1 : Hid (one3 = firstE [two, 8]) := e1.out
        have he3 : Hid (three3 = firstE [bad, 8]) := e3.out
        clear e1 e3
        go_wp2_with (first
         | (go_at_call 38; (with_reducible refine (lfirst2 _ _ _ _ _ _ (by exact heap_alloc_new W11 _)).mono ?_); rintro e w' ⟨rfl, rfl⟩)
         | (go_at_call 38; (with_reducible refine (lfirst2 bad 8 (W11.heap.size + 1) 3 (0, 0) ((W11.alloc (.cells #[.int .i64 two, .int .i64 8] 3)).alloc (.cells #[.int .i64 bad, .int .i64 8] 3)) (by have h := heap_alloc_new (W11.alloc (.cells #[.int .i64 two, .int .i64 8] 3)) (.cells #[.int .i64 bad, .int .i64 8] 3); rw [World.size_alloc] at h; exact h)).mono ?_); rintro e w' ⟨rfl, rfl⟩))
        go_meet
        exact ⟨by rw [he1.out], by rw [he3.out], kP2 _ _ hPd (bt_alloc (bt_new _ _) _)⟩
       ·
        have he1 : Hid (one3 = two) := e1.out
        have he3 : Hid (three3 = bad) := e3.out
        clear e1 e3
        go_wp2
        go_meet
        exact ⟨by rw [he1.out], by rw [he3.out], hPd⟩
     case rest =>
      as_aux_lemma =>
       obtain ⟨rfl, rfl, hPc⟩ := hcut
       clear hPd
       generalize wc = W12 at hPc ⊢
       go_upto_region 16 with fail
       go_cut [116] from 115 to 116 (fun s116 wr => s116 = .bool (one3 == 0) ∧ wr = W12)
       case first =>
        as_aux_lemma =>
         go_wp2
         go_meet
         exact ⟨rfl, rfl⟩
       case rest =>
       obtain ⟨rfl, hwc⟩ := hcut
       rw [hwc]
       clear hwc
       go_step
       go_cut [17, 19] from 116 to 130 (fun s17 s19 wr => s17 = .int .i64 se ∧ s19 = .int .i64 sv ∧ P2 wr)
       case first =>
        as_aux_lemma =>
         by_cases h0 : one3 = 0
         ·
          have hz : (one3 == 0) = true := by simpa using h0
          have H40 := C.h40 h0
          have hix := C.hix h0
          have H33 := C.h33 h0
          obtain ⟨s0, s1⟩ := C.hs h0
          have E0 := Lib.hid (C.hs0 h0)
          have E1 := Lib.hid (C.hs1 h0)
          clear C h0
          go_upto_region 17 with fail
          go_cut [19] from 116 to 128 (fun s19 wr => s19 = .int .i64 sv ∧ P2 wr)
          case first =>
           as_aux_lemma =>
            have hS0 := HS.out _ (kP2 _ _ hPc (bt_drew (Below.refl _ W12)))
            refine wp_region_held_drew (S := (fun X => (X.cell? ⟨w.heap.size, 36, none⟩ = some (.slice A n c) ∧ X.cell? ⟨w.heap.size + 1, 0, none⟩ = some (.int .i64 x0) ∧ X.cell? ⟨w.heap.size + 1, 1, none⟩ = some (.int .i64 x1)) ∧ P2 X)) (by kernel_rfl) (hS0) (fun hHeld => ?_)
            refine tkE (i := 0) rfl ?_
            refine ldE (i := 1) rfl rfl rfl (tc) (fun W h => HG.out W h.2) Tryz.underlying46 rfl (Gt.l46) ?_
            refine tkE (i := 2) rfl ?_
            refine tkE (i := 3) rfl ?_
            refine tkE (i := 4) rfl ?_
            refine tkE (i := 5) rfl ?_
            refine tkE (i := 7) rfl ?_
            refine tkE (i := 8) rfl ?_
            refine tkE (i := 10) rfl ?_
            refine rdE (i := 6) rfl (fun K hK => ?_)
            go_simp
            (go_at_call 40; refine (H40 _ (HP0.out _ hHeld.2)).mono ?_; rintro e w9 ⟨rfl, hb9⟩)
            go_wp2_with fail
            refine onE hK (HS.out _ (kP2 _ _ hHeld.2 hb9)) (fun hHeld => ?_)
            clear hK K
            refine tkE (i := 9) rfl ?_
            refine rdE (i := 11) rfl (fun K hK => ?_)
            go_simp
            (go_at_call 33; refine (H33 _).mono ?_; rintro e w9 ⟨rfl, hb9⟩)
            go_wp2_with fail
            refine onE hK (HS.out _ (kP2 _ _ hHeld.2 hb9)) (fun hHeld => ?_)
            clear hK K
            refine tkE (i := 12) rfl ?_
            refine wpAnyH_done (by kernel_rfl) ?_ _
            go_wp2_with fail
            go_meet
            exact ⟨rfl, hHeld.2⟩
          case rest =>
           obtain ⟨rfl, hPe⟩ := hcut
           clear hPc H40 hix H33
           generalize wc = W13 at hPe ⊢
           by_cases h1 : sv = 0
           ·
            have hz1 : (sv == 0) = true := by simpa using h1
            have he := Lib.hid (E0.out h1)
            clear h1 E0 E1
            go_wp2
            go_meet
            exact ⟨by rw [he.out], rfl, hPe⟩
           ·
            have hz1 : (sv == 0) = false := by simpa using h1
            have he := Lib.hid (E1.out h1)
            clear h1 E0 E1
            go_wp2
            go_meet
            exact ⟨by rw [he.out]; have := eq_of_beq hz; rw [this], rfl, hPe⟩
         ·
          have hz : (one3 == 0) = false := by simpa using h0
          obtain ⟨e1, e2⟩ := C.hs2 h0
          have E1 := Lib.hid e1; have E2 := Lib.hid e2
          clear h0 e1 e2 C
          go_wp2
          go_meet
          exact ⟨by rw [E2.out], by rw [E1.out], hPc⟩
       case rest =>
        as_aux_lemma =>
         obtain ⟨rfl, rfl, hPd⟩ := hcut
         clear hPc
         generalize wc = W13 at hPd ⊢
         go_upto_region 20 with fail
         go_cut [132] from 131 to 132 (fun s132 wr => s132 = .bool (two == 0) ∧ wr = W13)
         case first =>
          as_aux_lemma =>
           go_wp2
           go_meet
           exact ⟨rfl, rfl⟩
         case rest =>
         obtain ⟨rfl, hwc⟩ := hcut
         rw [hwc]
         clear hwc
         go_step
         go_cut [21] from 132 to 141 (fun s21 wr => (∃ B d, s21 = .slice B gm d ∧ Rd wr B (GN.map .string)) ∧ P2 wr)
         case first =>
          as_aux_lemma =>
           by_cases h0 : two = 0
           ·
            have hz : (two == 0) = true := by simpa using h0
            have H53 := C.h53 h0
            obtain ⟨⟨c36, c0, c1⟩, _⟩ := HS.out _ hPd
            have hR := HG.out _ hPd
            clear h0
            go_wp2_with (first
             | (refine wpList_load_cells rfl 46 _ rfl w.heap.size 0 rfl tc (fun j hj => by rw [List.getElem?_eq_getElem hj]; exact hR j _ (List.getElem?_eq_getElem hj)) _ Tryz.underlying46 rfl Gt.l46 ?_)
             | (go_at_call 53; (with_reducible refine (H53 _ (HP0.out _ hPd)).mono ?_); rintro e w14 ⟨⟨D0, dd, rfl, hd0⟩, hb14⟩))
            go_meet
            exact ⟨⟨D0, dd, rfl, hd0⟩, kP2 _ _ hPd hb14⟩
           ·
            have hz : (two == 0) = false := by simpa using h0
            have hg := Lib.hid (C.hg0 h0)
            have hgl := Lib.hid C.hgl.1
            clear h0
            go_wp2
            go_meet
            exact ⟨⟨none, 0, by rw [hg.out], .inl (by rw [List.length_eq_zero_iff.1 (hgl.out.trans hg.out)]; rfl)⟩, hPd⟩
         case rest =>
          as_aux_lemma =>
           obtain ⟨⟨D0, dd, rfl, hd0⟩, hPc⟩ := hcut
           clear hPd
           obtain ⟨P3, kP3, hP3, oP3⟩ : ∃ P3 : World → Prop, Keep P3 ∧ P3 wc ∧ Hid (∀ X, P3 X → P2 X ∧ Rd X D0 (GN.map .string)) := ⟨fun X => P2 X ∧ Rd X D0 (GN.map .string), keep_and kP2 (keep_rd _ _), ⟨hPc, hd0⟩, fun _ h => h⟩
           clear hPc hd0
           generalize wc = W14 at hP3 ⊢
           go_upto_region 22 with fail
           go_cut [143] from 142 to 143 (fun s143 wr => s143 = .bool (three3 == 0) ∧ wr = W14)
           case first =>
            as_aux_lemma =>
             go_wp2
             go_meet
             exact ⟨rfl, rfl⟩
           case rest =>
           obtain ⟨rfl, hwc⟩ := hcut
           rw [hwc]
           clear hwc
           go_step
           go_cut [18, 20] from 143 to 169 (fun s18 s20 wr => s18 = .int .i64 ce ∧ s20 = .int .i64 cv ∧ P3 wr)
           case first =>
            as_aux_lemma =>
             by_cases h0 : three3 = 0
             ·
              have hz : (three3 == 0) = true := by simpa using h0
              have HQ : Hid (∀ X, P3 X → P2 X) := fun X h => (oP3.out _ h).1
              have H430 := C.h430 h0
              have H431 := C.h431 h0
              have H54 : Hid (∀ (W : World) (B : Option Addr) (d : Nat), Rd W B (N0.map .string) → Calls Tryz.prog 54 #[.slice B m0 d, .string name] W fun x w' => x = .returned (.bool (decide (name ∈ N0))) ∧ W = w') := fun W B d h => hasWord_any N0 B m0 d name W C.hnl.1 (by have := C.hnl.2.2.1; omega) h
              have H55 : Hid (∀ (W : World) (B : Option Addr) (d : Nat), Rd W B (N1.map .string) → Calls Tryz.prog 54 #[.slice B m1 d, .string name] W fun x w' => x = .returned (.bool (decide (name ∈ N1))) ∧ W = w') := fun W B d h => hasWord_any N1 B m1 d name W C.hnl.2.1 (by have := C.hnl.2.2.2; omega) h
              have K0 := Lib.hid (C.hk0 h0)
              have K1 := Lib.hid (C.hk1 h0)
              have e3 := Lib.hid h0
              clear C h0
              by_cases h1 : name ∈ N0
              ·
               rw [decide_eq_true h1] at H54
               obtain ⟨ec, Hc⟩ := K1.out (.inl h1)
               have Ec := Lib.hid ec
               clear K0 K1 h1 H431 H55 ec
               have hR := HG.out _ (HQ.out _ hP3)
               have c36 := (HS.out _ (HQ.out _ hP3)).1.1
               go_upto_region 25 with (first
                | (refine wpList_load_cells rfl 46 _ rfl w.heap.size 0 rfl tc (fun j hj => by rw [List.getElem?_eq_getElem hj]; exact hR j _ (List.getElem?_eq_getElem hj)) _ Tryz.underlying46 rfl Gt.l46 ?_)
                | (go_at_call 43; (with_reducible refine (H430 _ (HP0.out _ (HQ.out _ hP3))).mono ?_); rintro e w15 ⟨⟨E0, d15, rfl, hd15⟩, hb15⟩))
               (with_reducible refine (H54.out _ _ _ hd15).mono ?_)
               rintro e w' ⟨rfl, rfl⟩
               go_upto_region 25 with fail
               have hP15 := kP3 _ _ hP3 hb15
               clear hP3 hR c36 hd15 hb15 H430 H54
               have hR := HG.out _ (HQ.out _ hP15)
               obtain ⟨⟨c36, c0, c1⟩, _⟩ := HS.out _ (HQ.out _ hP15)
               go_wp2_with (first
                | (refine wpList_load_cells rfl 46 _ rfl w.heap.size 0 rfl tc (fun j hj => by rw [List.getElem?_eq_getElem hj]; exact hR j _ (List.getElem?_eq_getElem hj)) _ Tryz.underlying46 rfl Gt.l46 ?_)
                | (go_at_call 55; (with_reducible refine (Hc _ (HP0.out _ (HQ.out _ hP15))).mono ?_); rintro e w16 ⟨rfl, hb16⟩))
               go_meet
               exact ⟨by rw [Ec.out, e3.out], rfl, kP3 _ _ hP15 hb16⟩
              ·
               rw [decide_eq_false h1] at H54
               have hR := HG.out _ (HQ.out _ hP3)
               have c36 := (HS.out _ (HQ.out _ hP3)).1.1
               by_cases h2 : name ∈ N1
               ·
                rw [decide_eq_true h2] at H55
                obtain ⟨ec, Hc⟩ := K1.out (.inr h2)
                have Ec := Lib.hid ec
                clear K0 K1 h1 h2 ec
                go_upto_region 25 with (first
                 | (refine wpList_load_cells rfl 46 _ rfl w.heap.size 0 rfl tc (fun j hj => by rw [List.getElem?_eq_getElem hj]; exact hR j _ (List.getElem?_eq_getElem hj)) _ Tryz.underlying46 rfl Gt.l46 ?_)
                 | (refine wpList_load_cells_g 46 _ rfl w.heap.size 0 rfl tc (fun j hj => by rw [List.getElem?_eq_getElem hj]; exact hR2 j _ (List.getElem?_eq_getElem hj)) _ Tryz.underlying46 rfl Gt.l46 rfl ?_)
                 | (go_at_call 43; (with_reducible refine (H430 _ (HP0.out _ (HQ.out _ hP3))).mono ?_); rintro e w15 ⟨⟨E0, d15, rfl, hd15⟩, hb15⟩; have hP15 := kP3 _ _ hP3 hb15; have hR2 := HG.out _ (HQ.out _ hP15); have c36b := (HS.out _ (HQ.out _ hP15)).1.1)
                 | (go_at_call 54; (with_reducible refine (H54.out _ _ _ hd15).mono ?_); rintro e w' ⟨rfl, rfl⟩)
                 | (go_at_call 43; (with_reducible refine (H431 _ (HP0.out _ (HQ.out _ hP15))).mono ?_); rintro e w16 ⟨⟨E1, d16, rfl, hd16⟩, hb16⟩)
                 | (go_at_call 54; (with_reducible refine (H55.out _ _ _ hd16).mono ?_); rintro e w' ⟨rfl, rfl⟩))
                have hP16 := kP3 _ _ hP15 hb16
                clear hP3 hR c36 hd15 hb15 H430 H54 hP15 hR2 c36b hd16 hb16
                have hR := HG.out _ (HQ.out _ hP16)
                obtain ⟨⟨c36, c0, c1⟩, _⟩ := HS.out _ (HQ.out _ hP16)
                go_wp2_with (first
                 | (refine wpList_load_cells rfl 46 _ rfl w.heap.size 0 rfl tc (fun j hj => by rw [List.getElem?_eq_getElem hj]; exact hR j _ (List.getElem?_eq_getElem hj)) _ Tryz.underlying46 rfl Gt.l46 ?_)
                 | (go_at_call 55; (with_reducible refine (Hc _ (HP0.out _ (HQ.out _ hP16))).mono ?_); rintro e w17 ⟨rfl, hb17⟩))
                go_meet
                exact ⟨by rw [Ec.out, e3.out], rfl, kP3 _ _ hP16 hb17⟩
               ·
                rw [decide_eq_false h2] at H55
                obtain ⟨ev, ec⟩ := K0.out h1 h2
                have Ec := Lib.hid ec; have Ev := Lib.hid ev
                clear K0 K1 h1 h2 ec ev
                go_wp2_with (first
                 | (refine wpList_load_cells rfl 46 _ rfl w.heap.size 0 rfl tc (fun j hj => by rw [List.getElem?_eq_getElem hj]; exact hR j _ (List.getElem?_eq_getElem hj)) _ Tryz.underlying46 rfl Gt.l46 ?_)
                 | (refine wpList_load_cells_g 46 _ rfl w.heap.size 0 rfl tc (fun j hj => by rw [List.getElem?_eq_getElem hj]; exact hR2 j _ (List.getElem?_eq_getElem hj)) _ Tryz.underlying46 rfl Gt.l46 rfl ?_)
                 | (go_at_call 43; (with_reducible refine (H430 _ (HP0.out _ (HQ.out _ hP3))).mono ?_); rintro e w15 ⟨⟨E0, d15, rfl, hd15⟩, hb15⟩; have hP15 := kP3 _ _ hP3 hb15; have hR2 := HG.out _ (HQ.out _ hP15); have c36b := (HS.out _ (HQ.out _ hP15)).1.1)
                 | (go_at_call 54; (with_reducible refine (H54.out _ _ _ hd15).mono ?_); rintro e w' ⟨rfl, rfl⟩)
                 | (go_at_call 43; (with_reducible refine (H431 _ (HP0.out _ (HQ.out _ hP15))).mono ?_); rintro e w16 ⟨⟨E1, d16, rfl, hd16⟩, hb16⟩)
                 | (go_at_call 54; (with_reducible refine (H55.out _ _ _ hd16).mono ?_); rintro e w' ⟨rfl, rfl⟩))
                go_meet
                exact ⟨by rw [Ec.out], by rw [Ev.out], kP3 _ _ hP15 hb16⟩
             ·
              have hz : (three3 == 0) = false := by simpa using h0
              obtain ⟨ev, ec⟩ := C.hk2 h0
              have Ev := Lib.hid ev; have Ec := Lib.hid ec
              clear h0 ev ec C
              go_wp2
              go_meet
              exact ⟨by rw [Ec.out], by rw [Ev.out], hP3⟩
           case rest =>
            as_aux_lemma =>
             obtain ⟨rfl, rfl, hPc⟩ := hcut
             clear hP3
             generalize wc = W17 at hPc ⊢
             have hr1 := HRd.out _ (oP3.out _ hPc).1
             have hr2 := (oP3.out _ hPc).2
             have Hend := Lib.hid (Gp.below _ (HP0.out _ (oP3.out _ hPc).1))
             go_upto_region 26 with fail
             by_cases h0 : two = 0
             ·
              have H42 : Hid (Calls Tryz.prog 42 #[.slice B0 gm d0, .int .i64 two, .int .i64 two, .slice D0 gm dd] W17 fun x w' => x = .returned (.bool true) ∧ ∃ q, w' = W17.drewN q) := by
               rw [h0]; exact words_ok GN B0 D0 gm d0 dd _ C.hgl.1 C.hgl.2 hr1 hr2
              clear h0 C hr1 hr2 hPc kP3 oP3 HP0 HRd HS HG
              go_wp2_with (go_at_call 42; (with_reducible refine H42.out.mono ?_); rintro e w18 ⟨rfl, q, rfl⟩)
              go_ret
              exact ⟨ret_bool (by first | rfl | simp), bt_drewN Hend.out q⟩
             ·
              have hg := C.hg0 h0
              have H42 : Hid (Calls Tryz.prog 42 #[.slice B0 gm d0, .int .i64 two, .int .i64 two, .slice D0 gm dd] W17 fun x w' => x = .returned (.bool true) ∧ W17 = w') := by
               rw [hg]; exact words_bad B0 D0 d0 0 dd two h0 _
              clear h0 C hr1 hr2 hPc kP3 oP3 HP0 HRd HS HG hg
              go_wp2_with (go_at_call 42; (with_reducible refine H42.out.mono ?_); rintro e w18 ⟨rfl, rfl⟩)
              go_ret
              exact ⟨ret_bool (by first | rfl | simp), Hend.out⟩

set_option maxHeartbeats 60000000 in
set_option maxRecDepth 100000 in
theorem plyLaw_any (t : Tms) (ht : t.ok) (l : List Chg) (A : Option Addr) (n c : Nat) (hn : l.length = n) (x0 x1 : Int) (name : Str) (hnsz : name.size ≤ 9223372036854775807)
 (hsz : ∀ s ∈ t.l0.b ++ t.l1.b, s.size ≤ 9223372036854775807) (hszl : ∀ d ∈ l, d.name.size ≤ 9223372036854775807) (w : World) (hl : RdC w A l) (hE : Env w) (G : Array Value) (hG : G = (t.cells ++ [Value.slice A n c]).toArray) :
 Calls Tryz.prog 9 #[.agg G, .agg #[.int .i64 x0, .int .i64 x1], .string name] w fun x w' => x = .returned (.bool true) ∧ Below w.heap.size w w' := by
 have haw : ∀ W, Below w.heap.size w W → Calls Tryz.prog 13 #[] W fun x w' => x = .returned (.bool true) ∧ Below W.heap.size W w' := fun W h => awake_any W (env_below hE h)
 obtain ⟨P, Gp, hP, hbx⟩ := gp_of2 t ht A n c G hG #[.int .i64 x0, .int .i64 x1] 95 w
 have hrest : ∀ b : Bool, shortL t l = b → (b = true → 60 < name.size ∨ (name.size ≤ 60 ∧ 20 < x0 ∧ x0 ≤ 256)) → Calls Tryz.prog 9 #[.agg G, .agg #[.int .i64 x0, .int .i64 x1], .string name] w fun x w' => x = .returned (.bool true) ∧ Below w.heap.size w w' := fun b hsh hx => by
  have H21 : ∀ W, P W → Calls Tryz.prog 21 #[.agg (t.cells ++ [Value.slice A n c]).toArray] W fun x w' => x = .returned (.bool b) ∧ Below W.heap.size W w' := fun W h => by
   have := short_any t ht _ l A n c rfl hn W (hl.below (Gp.below _ h))
   rw [hsh] at this; exact this
  have Haw : ∀ W, P W → Calls Tryz.prog 13 #[] W fun x w' => x = .returned (.bool true) ∧ Below W.heap.size W w' := fun W h => haw W (Gp.below _ h)
  have hgr := Gp.rg
  have hi49 := Gp.i49
  have Hgr := Lib.hid hgr; have Hi49 := Lib.hid hi49; have H21' := Lib.hid H21; have Haw' := Lib.hid Haw; have Hx := Lib.hid hx
  have Hbx : Hid (∀ X, P X → X.cell? ⟨w.heap.size + 1, 0, none⟩ = some (.int .i64 x0)) := fun X h => by rw [(hbx X h).cell]; rfl
  clear hsh hG ht hn hsz hszl hl haw H21 Haw hgr hi49 hE hx hbx hnsz
  generalize (t.cells ++ [Value.slice A n c]) = gc at Hgr Hi49 H21'
  go_enter Tryz.func9, Tryz.ntmps9
  go_upto_region 1 with fail
  generalize ((w.alloc (.cells G 49)).alloc (.cells #[.int .i64 x0, .int .i64 x1] 95)) = W0 at hP ⊢
  go_cut [43] from 22 to 43 (fun s43 wr => s43 = .bool true ∧ P wr)
  case first =>
   cases b
   ·
    clear Hx Hbx
    go_wp2_with (first
     | (go_at_call 13; refine (Haw'.out _ hP).mono ?_; rintro e w1 ⟨rfl, hb1⟩; have hP1 := Gp.kp _ _ hP hb1)
     | (refine wpList_load_cells_g 49 _ rfl w.heap.size 0 rfl gc (fun j hj => by rw [List.getElem?_eq_getElem hj]; exact Hgr.out _ hP1 j _ (List.getElem?_eq_getElem hj)) _ Tryz.underlying49 rfl Hi49.out rfl ?_))
    refine (H21'.out _ hP1).mono ?_
    rintro e w2 ⟨rfl, hb2⟩
    have hP2 := Gp.kp _ _ hP1 hb2
    go_wp2_with fail
    go_meet
    exact ⟨by first | rfl | simp, hP2⟩
   ·
    rcases Hx.out rfl with hnm | ⟨hnm, h1, h2⟩
    ·
     have a0 : (60 : Int) < (name.size : Int) := by omega
     have b0 : decide ((60 : Int) < (name.size : Int)) = true := decide_eq_true a0
     clear Hx Hbx hnm
     go_wp2_with (first
      | (go_at_call 13; refine (Haw'.out _ hP).mono ?_; rintro e w1 ⟨rfl, hb1⟩; have hP1 := Gp.kp _ _ hP hb1)
      | (refine wpList_load_cells_g 49 _ rfl w.heap.size 0 rfl gc (fun j hj => by rw [List.getElem?_eq_getElem hj]; exact Hgr.out _ hP1 j _ (List.getElem?_eq_getElem hj)) _ Tryz.underlying49 rfl Hi49.out rfl ?_))
     refine (H21'.out _ hP1).mono ?_
     rintro e w2 ⟨rfl, hb2⟩
     have hP2 := Gp.kp _ _ hP1 hb2
     go_wp2_with fail
     go_meet
     exact ⟨by first | rfl | simp, hP2⟩
    ·
     have a0 : ¬ (60 : Int) < (name.size : Int) := by omega
     have b0 : decide ((60 : Int) < (name.size : Int)) = false := decide_eq_false a0
     have b1 : decide ((20 : Int) < x0) = true := decide_eq_true h1
     have b2 : decide (x0 ≤ 256) = true := decide_eq_true h2
     clear Hx hnm
     go_wp2_with (first
      | (go_at_call 13; refine (Haw'.out _ hP).mono ?_; rintro e w1 ⟨rfl, hb1⟩; have hP1 := Gp.kp _ _ hP hb1)
      | (refine wpList_load_cells_g 49 _ rfl w.heap.size 0 rfl gc (fun j hj => by rw [List.getElem?_eq_getElem hj]; exact Hgr.out _ hP1 j _ (List.getElem?_eq_getElem hj)) _ Tryz.underlying49 rfl Hi49.out rfl ?_))
     refine (H21'.out _ hP1).mono ?_
     rintro e w2 ⟨rfl, hb2⟩
     have hP2 := Gp.kp _ _ hP1 hb2
     have c0 := Hbx.out _ hP2
     go_wp2_with fail
     go_meet
     exact ⟨by first | rfl | simp, hP2⟩
  case rest =>
   obtain ⟨rfl, hP2⟩ := hcut
   clear hP
   go_wp2_with (go_at_call 13; refine (Haw'.out _ hP2).mono ?_; rintro e w3 ⟨rfl, hb3⟩)
   go_ret
   exact ⟨rfl, Gp.below _ (Gp.kp _ _ hP2 hb3)⟩
 by_cases hsh : shortL t l = true
 ·
  have hn66 : n ≤ 66 := by
   have := (short_parts hsh).1
   rw [hn] at this
   unfold shortN at this
   simp at this; omega
  by_cases hnm : name.size ≤ 60
  ·
   by_cases h20 : x0 ≤ 20 ∨ 256 < x0
   ·
    exact ply_main P w t.cells _ _ A n c x0 x1 name _ l _ _ _ _ _ _ _ _ _ _ _ _ _ _ _ Gp (tc_of t ht) (ply_facts P w t ht l A n c hn x0 x1 name hnm hn66 h20 hsz hszl hl haw Gp hbx hsh) hnm h20 G hP
   ·
    exact hrest true hsh (fun _ => .inr ⟨hnm, by omega, by omega⟩)
  ·
   exact hrest true hsh (fun _ => .inl (by omega))
 ·
  exact hrest false (by simpa using hsh) (fun h => by cases h)
end Go.Proofs.YtmagppkclnebjaaGreatDoor
