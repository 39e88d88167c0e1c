/- dugoutlaw03.LineupSteady: the walk. -/
import Derived.Test.YtmagppkclnebjaaGreatDoorW1
import Derived.Deep.Cut
import Derived.Deep.CutRange
import Derived.BigQuiet
import Derived.IntWalk
set_option linter.unusedVariables false
set_option linter.unusedSimpArgs false
set_option linter.unusedSimpArgs false
set_option linter.unusedVariables false
namespace Go.Proofs.YtmagppkclnebjaaGreatDoor
open Go.RowKit
open L

set_option maxHeartbeats 60000000 in
set_option maxRecDepth 100000 in
theorem std_main (P : World → Prop) (w : World) (tc : List Value) (A : Option Addr) (n c : Nat) (l : List Chg) (N b0 : Nat) (S : List Sti) (m : Nat) (N0 N1 : List Str) (m0 m1 : Nat) (ta : Nat → List Value) (wh : Nat → Nat → Nat → Str) (ix : Nat → Nat → Nat → Nat) (gn : Nat → Nat → List Str) (pq : Nat → Nat)
 (Gp : GP w tc A n c 1 P) (C : StdC P tc A n c l N S m N0 N1 m0 m1 ta wh ix gn pq) (hb : Hid (b0 < 256 ∧ N = 1 + b0 % 16)) (G : Array Value) (hP : P (w.alloc (.cells G 49))) :
 Calls Tryz.prog 10 #[.agg G, .int .u8 b0] w fun x w' => x = .returned (.bool true) ∧ Below w.heap.size w w' := by
 go_enter Tryz.func10, Tryz.ntmps10
 go_upto_region 1 with fail
 generalize (w.alloc (.cells G 49)) = W0 at hP ⊢
 go_cut [5] from 40 to 43 (fun s5 wr => s5 = .int .i64 (N : Int) ∧ P wr)
 case first =>
  as_aux_lemma =>
   obtain ⟨q0, q1⟩ := hb.out
   have r0 : ((b0 : Int).tmod 16) = ((b0 % 16 : Nat) : Int) := by rw [Int.tmod_eq_emod_of_nonneg (by omega)]; omega
   have w0 : IntKind.i64.wrap (b0 : Int) = (b0 : Int) := IntWalk.i64_in _ (by omega)
   have w1 : IntKind.i64.wrap ((b0 % 16 : Nat) : Int) = ((b0 % 16 : Nat) : Int) := IntWalk.i64_in _ (by omega)
   have w2 : IntKind.i64.wrap (1 + ((b0 % 16 : Nat) : Int)) = (N : Int) := by rw [IntWalk.i64_in _ (by omega), q1]; omega
   have HP := Lib.hid hP
   have W := Lib.hid (And.intro r0 (And.intro w0 (And.intro w1 w2)))
   clear C Gp hP q0 q1 r0 w1 w2
   go_wp2
   go_meet
   obtain ⟨q0, q1⟩ := hb.out
   exact ⟨by congr 1; omega, HP.out⟩
 case rest =>
 obtain ⟨rfl, hPc⟩ := hcut
 clear hP
 generalize wc = W1 at hPc ⊢
 go_upto_region 2 with fail
 go_cut [50] from 44 to 50 (fun s50 wr => s50 = .bool false ∧ P wr)
 case first =>
  as_aux_lemma =>
   have hgr := Gp.rg
   have hi49 := Gp.i49
   have h34 := C.h34
   generalize (tc ++ [Value.slice A n c]) = gc at hgr hi49 h34
   go_wp2_with (first
    | (go_at_call 13; (with_reducible refine (C.h13 _ hPc).mono ?_); rintro e w1 ⟨rfl, hb1⟩; have hP1 := Gp.kp _ _ hPc hb1)
    | (refine wpList_load_cells_g 49 _ rfl w.heap.size 0 rfl gc (fun j hj => by rw [List.getElem?_eq_getElem hj]; exact hgr _ hP1 j _ (List.getElem?_eq_getElem hj)) _ Tryz.underlying49 rfl hi49 rfl ?_)
    | (go_at_call 34; (with_reducible refine (h34 _ hP1).mono ?_); rintro e w2 ⟨rfl, hb2⟩; have hP2 := Gp.kp _ _ hP1 hb2))
   go_meet
   exact ⟨by first | rfl | simp, hP2⟩
 case rest =>
 obtain ⟨rfl, hP⟩ := hcut
 clear hPc
 generalize wc = W0 at hP ⊢
 go_step
 go_upto_region 4 with fail
 have Gt := C.gc
 go_cut [6, 7] from 52 to 57 (fun s6 s7 wr => P wr ∧ ∃ g B d, s6 = .pointer (some ⟨g, 0, none⟩) ∧ s7 = .slice B n d ∧ Bk wr g 54 tc.toArray ∧ RdC wr B l)
 case first =>
  as_aux_lemma =>
   have hS0 : W0.drew.cell? ⟨w.heap.size, 36, none⟩ = some (.slice A n c) ∧ P W0.drew := ⟨Gp.c36 _ (Gp.kp _ _ hP (bt_drew (Below.refl _ W0))), Gp.kp _ _ hP (bt_drew (Below.refl _ W0))⟩
   refine wp_region_held_drew (S := (fun X => X.cell? ⟨w.heap.size, 36, none⟩ = some (.slice A n c) ∧ P X)) (by kernel_rfl) (hS0) (fun hHeld => ?_)
   refine tkE (i := 0) rfl ?_
   refine ldE (i := 1) rfl rfl rfl (tc) (fun W h => Gp.r W h.2) Tryz.underlying46 rfl (Gt.l46) ?_
   refine tkE (i := 3) rfl ?_
   refine tkE (i := 4) rfl ?_
   refine rdE2 (i := 2) (j := 6) rfl rfl (fun K hK => ?_) (fun K hK => ?_)
   ·
    go_simp
    go_at_call 23
    refine (C.h23 _).mono ?_
    rintro e w2 ⟨rfl, hb2⟩
    go_wp2_with fail
    have hP2 := Gp.kp _ _ hHeld.2 hb2
    refine onE hK ⟨Gp.c36 _ hP2, hP2⟩ (fun hHeld => ?_)
    clear hK K hb2 hS0
    refine rdE2 (i := 5) (j := 6) rfl rfl (fun K hK => ?_) (fun K hK => ?_)
    ·
     go_simp
     go_at_call 24
     refine (C.h24 _ hP2).mono ?_
     rintro e w3 ⟨⟨B, d, rfl, hr3, hge3⟩, hb3⟩
     go_wp2_with fail
     have hP3 := Gp.kp _ _ hP2 hb3
     refine onE hK ⟨Gp.c36 _ hP3, hP3⟩ (fun hHeld => ?_)
     clear hK K hb3 hP2
     have hPX := Gp.kp _ _ hP3 (bt_new w3 (.cells #[.string { data := #[] }, .string { data := #[] }, .string { data := #[] }, .string { data := #[] }, .string { data := #[] }, .string { data := #[] }, .string { data := #[] }, .string { data := #[] }, .string { data := #[] }, .int .i64 0, .int .i64 0, .int .i64 0, .int .i64 0, .int .i64 0, .int .i64 0, .int .i64 0, .int .i64 0, .int .i64 0, .string { data := #[] }, .string { data := #[] }, .string { data := #[] }, .string { data := #[] }, .string { data := #[] }, .string { data := #[] }, .string { data := #[] }, .string { data := #[] }, .string { data := #[] }, .int .i64 0, .int .i64 0, .int .i64 0, .int .i64 0, .int .i64 0, .int .i64 0, .int .i64 0, .int .i64 0, .int .i64 0] 54))
     refine rdE (i := 6) rfl (fun K hK => ?_)
     go_simp
     refine onE hK (⟨Gp.c36 _ hPX, hPX⟩) (fun hHeld => ?_)
     clear hK K
     have hlo := Gp.lo _ hP3
     have hb := Bk.new w3 54 #[.string { data := #[] }, .string { data := #[] }, .string { data := #[] }, .string { data := #[] }, .string { data := #[] }, .string { data := #[] }, .string { data := #[] }, .string { data := #[] }, .string { data := #[] }, .int .i64 0, .int .i64 0, .int .i64 0, .int .i64 0, .int .i64 0, .int .i64 0, .int .i64 0, .int .i64 0, .int .i64 0, .string { data := #[] }, .string { data := #[] }, .string { data := #[] }, .string { data := #[] }, .string { data := #[] }, .string { data := #[] }, .string { data := #[] }, .string { data := #[] }, .string { data := #[] }, .int .i64 0, .int .i64 0, .int .i64 0, .int .i64 0, .int .i64 0, .int .i64 0, .int .i64 0, .int .i64 0, .int .i64 0]
     have hr := hr3.below (bt_new w3 (.cells #[.string { data := #[] }, .string { data := #[] }, .string { data := #[] }, .string { data := #[] }, .string { data := #[] }, .string { data := #[] }, .string { data := #[] }, .string { data := #[] }, .string { data := #[] }, .int .i64 0, .int .i64 0, .int .i64 0, .int .i64 0, .int .i64 0, .int .i64 0, .int .i64 0, .int .i64 0, .int .i64 0, .string { data := #[] }, .string { data := #[] }, .string { data := #[] }, .string { data := #[] }, .string { data := #[] }, .string { data := #[] }, .string { data := #[] }, .string { data := #[] }, .string { data := #[] }, .int .i64 0, .int .i64 0, .int .i64 0, .int .i64 0, .int .i64 0, .int .i64 0, .int .i64 0, .int .i64 0, .int .i64 0] 54))
     have hne : ∀ a, B = some a → a.block ≠ w3.heap.size := fun a e => by have := (hge3 a e).2; omega
     clear hr3 hge3 hP3 hHeld
     generalize (w3.alloc (.cells #[.string { data := #[] }, .string { data := #[] }, .string { data := #[] }, .string { data := #[] }, .string { data := #[] }, .string { data := #[] }, .string { data := #[] }, .string { data := #[] }, .string { data := #[] }, .int .i64 0, .int .i64 0, .int .i64 0, .int .i64 0, .int .i64 0, .int .i64 0, .int .i64 0, .int .i64 0, .int .i64 0, .string { data := #[] }, .string { data := #[] }, .string { data := #[] }, .string { data := #[] }, .string { data := #[] }, .string { data := #[] }, .string { data := #[] }, .string { data := #[] }, .string { data := #[] }, .int .i64 0, .int .i64 0, .int .i64 0, .int .i64 0, .int .i64 0, .int .i64 0, .int .i64 0, .int .i64 0, .int .i64 0] 54)) = X at hPX hb hr ⊢
     generalize w3.heap.size = g at hb hlo hne ⊢
     refine rdE (i := 7) rfl (fun K hK => ?_)
     refine step_store rfl 54 _ _ rfl g 0 tc.toArray rfl rfl (hb.there _ (by rw [Gt.s36]; decide)) Gt.i54 Gt.one ?_
     have hPS := Gp.sets _ g tc hPX hlo
     refine onE hK ⟨Gp.c36 _ hPS, hPS⟩ (fun hHeld => ?_)
     clear hK K
     refine rdE (i := 8) rfl (fun K hK => ?_)
     go_simp
     refine onE hK (hHeld) (fun hHeld => ?_)
     clear hK K
     refine wpAnyH_done (by kernel_rfl) ?_ _
     go_wp2_with fail
     go_meet
     exact ⟨hPS, g, B, d, rfl, rfl, hb.fill tc.toArray (by rw [Gt.s36]; rfl), rdc_sets hr hne tc⟩
    ·
     go_simp
     have hPn := Gp.kp _ _ hP2 (bt_new w2 (.cells #[.string { data := #[] }, .string { data := #[] }, .string { data := #[] }, .string { data := #[] }, .string { data := #[] }, .string { data := #[] }, .string { data := #[] }, .string { data := #[] }, .string { data := #[] }, .int .i64 0, .int .i64 0, .int .i64 0, .int .i64 0, .int .i64 0, .int .i64 0, .int .i64 0, .int .i64 0, .int .i64 0, .string { data := #[] }, .string { data := #[] }, .string { data := #[] }, .string { data := #[] }, .string { data := #[] }, .string { data := #[] }, .string { data := #[] }, .string { data := #[] }, .string { data := #[] }, .int .i64 0, .int .i64 0, .int .i64 0, .int .i64 0, .int .i64 0, .int .i64 0, .int .i64 0, .int .i64 0, .int .i64 0] 54))
     refine onE hK ⟨Gp.c36 _ hPn, hPn⟩ (fun hHeld => ?_)
     clear hK K
     have hlo := Gp.lo _ hP2
     have hb0 := Bk.new w2 54 #[.string { data := #[] }, .string { data := #[] }, .string { data := #[] }, .string { data := #[] }, .string { data := #[] }, .string { data := #[] }, .string { data := #[] }, .string { data := #[] }, .string { data := #[] }, .int .i64 0, .int .i64 0, .int .i64 0, .int .i64 0, .int .i64 0, .int .i64 0, .int .i64 0, .int .i64 0, .int .i64 0, .string { data := #[] }, .string { data := #[] }, .string { data := #[] }, .string { data := #[] }, .string { data := #[] }, .string { data := #[] }, .string { data := #[] }, .string { data := #[] }, .string { data := #[] }, .int .i64 0, .int .i64 0, .int .i64 0, .int .i64 0, .int .i64 0, .int .i64 0, .int .i64 0, .int .i64 0, .int .i64 0]
     clear hP2 hHeld
     generalize (w2.alloc (.cells #[.string { data := #[] }, .string { data := #[] }, .string { data := #[] }, .string { data := #[] }, .string { data := #[] }, .string { data := #[] }, .string { data := #[] }, .string { data := #[] }, .string { data := #[] }, .int .i64 0, .int .i64 0, .int .i64 0, .int .i64 0, .int .i64 0, .int .i64 0, .int .i64 0, .int .i64 0, .int .i64 0, .string { data := #[] }, .string { data := #[] }, .string { data := #[] }, .string { data := #[] }, .string { data := #[] }, .string { data := #[] }, .string { data := #[] }, .string { data := #[] }, .string { data := #[] }, .int .i64 0, .int .i64 0, .int .i64 0, .int .i64 0, .int .i64 0, .int .i64 0, .int .i64 0, .int .i64 0, .int .i64 0] 54)) = Wn at hPn hb0 ⊢
     generalize w2.heap.size = g at hb0 hlo ⊢
     refine rdE (i := 5) rfl (fun K hK => ?_)
     go_simp
     go_at_call 24
     refine (C.h24 _ hPn).mono ?_
     rintro e X ⟨⟨B, d, rfl, hr, hge3⟩, hb3⟩
     go_wp2_with fail
     have hPX := Gp.kp _ _ hPn hb3
     refine onE hK ⟨Gp.c36 _ hPX, hPX⟩ (fun hHeld => ?_)
     clear hK K hHeld
     have hb := hb0.below hb3 hb0.lt
     have hne : ∀ a, B = some a → a.block ≠ g := fun a e => by have := (hge3 a e).1; have := hb0.lt; omega
     clear hge3 hPn hb0 hb3
     refine rdE (i := 7) rfl (fun K hK => ?_)
     refine step_store rfl 54 _ _ rfl g 0 tc.toArray rfl rfl (hb.there _ (by rw [Gt.s36]; decide)) Gt.i54 Gt.one ?_
     have hPS := Gp.sets _ g tc hPX hlo
     refine onE hK ⟨Gp.c36 _ hPS, hPS⟩ (fun hHeld => ?_)
     clear hK K
     refine rdE (i := 8) rfl (fun K hK => ?_)
     go_simp
     refine onE hK (hHeld) (fun hHeld => ?_)
     clear hK K
     refine wpAnyH_done (by kernel_rfl) ?_ _
     go_wp2_with fail
     go_meet
     exact ⟨hPS, g, B, d, rfl, rfl, hb.fill tc.toArray (by rw [Gt.s36]; rfl), rdc_sets hr hne tc⟩
   ·
    go_simp
    have hPn : P (W0.alloc (.cells #[.string { data := #[] }, .string { data := #[] }, .string { data := #[] }, .string { data := #[] }, .string { data := #[] }, .string { data := #[] }, .string { data := #[] }, .string { data := #[] }, .string { data := #[] }, .int .i64 0, .int .i64 0, .int .i64 0, .int .i64 0, .int .i64 0, .int .i64 0, .int .i64 0, .int .i64 0, .int .i64 0, .string { data := #[] }, .string { data := #[] }, .string { data := #[] }, .string { data := #[] }, .string { data := #[] }, .string { data := #[] }, .string { data := #[] }, .string { data := #[] }, .string { data := #[] }, .int .i64 0, .int .i64 0, .int .i64 0, .int .i64 0, .int .i64 0, .int .i64 0, .int .i64 0, .int .i64 0, .int .i64 0] 54)).drew := Gp.kp _ _ hP (bt_drew (bt_new W0 _))
    refine onE hK ⟨Gp.c36 _ hPn, hPn⟩ (fun hHeld => ?_)
    clear hK K hS0
    have hb0 := (Bk.new W0 54 #[.string { data := #[] }, .string { data := #[] }, .string { data := #[] }, .string { data := #[] }, .string { data := #[] }, .string { data := #[] }, .string { data := #[] }, .string { data := #[] }, .string { data := #[] }, .int .i64 0, .int .i64 0, .int .i64 0, .int .i64 0, .int .i64 0, .int .i64 0, .int .i64 0, .int .i64 0, .int .i64 0, .string { data := #[] }, .string { data := #[] }, .string { data := #[] }, .string { data := #[] }, .string { data := #[] }, .string { data := #[] }, .string { data := #[] }, .string { data := #[] }, .string { data := #[] }, .int .i64 0, .int .i64 0, .int .i64 0, .int .i64 0, .int .i64 0, .int .i64 0, .int .i64 0, .int .i64 0, .int .i64 0]).drew
    have hlo := Gp.lo _ hP
    clear hHeld hP
    generalize (W0.alloc (.cells #[.string { data := #[] }, .string { data := #[] }, .string { data := #[] }, .string { data := #[] }, .string { data := #[] }, .string { data := #[] }, .string { data := #[] }, .string { data := #[] }, .string { data := #[] }, .int .i64 0, .int .i64 0, .int .i64 0, .int .i64 0, .int .i64 0, .int .i64 0, .int .i64 0, .int .i64 0, .int .i64 0, .string { data := #[] }, .string { data := #[] }, .string { data := #[] }, .string { data := #[] }, .string { data := #[] }, .string { data := #[] }, .string { data := #[] }, .string { data := #[] }, .string { data := #[] }, .int .i64 0, .int .i64 0, .int .i64 0, .int .i64 0, .int .i64 0, .int .i64 0, .int .i64 0, .int .i64 0, .int .i64 0] 54)).drew = Wn at hPn hb0 ⊢
    generalize W0.heap.size = g at hb0 hlo ⊢
    refine rdE (i := 2) rfl (fun K hK => ?_)
    go_simp
    go_at_call 23
    refine (C.h23 _).mono ?_
    rintro e w2 ⟨rfl, hb2⟩
    go_wp2_with fail
    have hP2 := Gp.kp _ _ hPn hb2
    have hbk2 := hb0.below hb2 hb0.lt
    refine onE hK ⟨Gp.c36 _ hP2, hP2⟩ (fun hHeld => ?_)
    clear hK K hHeld hPn hb0 hb2
    refine rdE (i := 5) rfl (fun K hK => ?_)
    go_simp
    go_at_call 24
    refine (C.h24 _ hP2).mono ?_
    rintro e X ⟨⟨B, d, rfl, hr, hge3⟩, hb3⟩
    go_wp2_with fail
    have hPX := Gp.kp _ _ hP2 hb3
    refine onE hK ⟨Gp.c36 _ hPX, hPX⟩ (fun hHeld => ?_)
    clear hK K hHeld
    have hb := hbk2.below hb3 hbk2.lt
    have hne : ∀ a, B = some a → a.block ≠ g := fun a e => by have := (hge3 a e).1; have := hbk2.lt; omega
    clear hge3 hP2 hbk2 hb3
    refine rdE (i := 7) rfl (fun K hK => ?_)
    refine step_store rfl 54 _ _ rfl g 0 tc.toArray rfl rfl (hb.there _ (by rw [Gt.s36]; decide)) Gt.i54 Gt.one ?_
    have hPS := Gp.sets _ g tc hPX hlo
    refine onE hK ⟨Gp.c36 _ hPS, hPS⟩ (fun hHeld => ?_)
    clear hK K
    refine rdE (i := 8) rfl (fun K hK => ?_)
    go_simp
    refine onE hK (hHeld) (fun hHeld => ?_)
    clear hK K
    refine wpAnyH_done (by kernel_rfl) ?_ _
    go_wp2_with fail
    go_meet
    exact ⟨hPS, g, B, d, rfl, rfl, hb.fill tc.toArray (by rw [Gt.s36]; rfl), rdc_sets hr hne tc⟩
 case rest =>
 obtain ⟨hPc, g6, B7, d7, rfl, rfl, hb6, hr7⟩ := hcut
 clear hP
 obtain ⟨P1, kP1, hP1, oP1⟩ : ∃ P1 : World → Prop, Keep P1 ∧ P1 wc ∧ Hid (∀ X, P1 X → P X ∧ Bk X g6 54 tc.toArray ∧ RdC X B7 l) := ⟨fun X => P X ∧ Bk X g6 54 tc.toArray ∧ RdC X B7 l, keep_and Gp.kp (keep_and (keep_bk _ _ _) (keep_rdc _ _)), ⟨hPc, hb6, hr7⟩, fun _ h => h⟩
 clear hPc hb6 hr7
 generalize wc = W1 at hP1 ⊢
 go_upto_region 5 with fail
 go_cut [8, 9] from 58 to 64 (fun s8 s9 wr => P1 wr ∧ s9 = .int .i64 0 ∧ ∃ B0 c0, s8 = .slice B0 m c0 ∧ RdS wr B0 S)
 case first =>
  as_aux_lemma =>
   have hbl := (oP1.out _ hP1).2.1
   have hcon := C.h44 _ _ d7 (oP1.out _ hP1).2.2
   clear C Gp
   go_wp2_with (first
    | (refine wpList_load_row rfl 54 _ rfl g6 rfl 54 tc.toArray (0, 0) _ hbl Tryz.underlying54 rfl Gt.i54 ?_)
    | (go_at_call 44; (with_reducible refine hcon.mono ?_); rintro e w2 ⟨⟨B0, c0, rfl, hr2⟩, hb2⟩))
   go_meet
   exact ⟨kP1 _ _ hP1 hb2, rfl, B0, c0, rfl, hr2⟩
 case rest =>
 obtain ⟨hPc, rfl, B8, c8, rfl, hr8⟩ := hcut
 clear hP1
 obtain ⟨P2, kP2, hP2, oP2⟩ : ∃ P2 : World → Prop, Keep P2 ∧ P2 wc ∧ Hid (∀ X, P2 X → P1 X ∧ RdS X B8 S) := ⟨fun X => P1 X ∧ RdS X B8 S, keep_and kP1 (keep_rds _ _), ⟨hPc, hr8⟩, fun _ h => h⟩
 clear hPc hr8
 generalize wc = W2 at hP2 ⊢
 go_upto_region 6 with fail
 go_cut [10, 11] from 65 to 70 (fun s10 s11 wr => P2 wr ∧ s11 = .int .i64 0 ∧ ∃ g Ba ca Bb cb, s10 = .pointer (some ⟨g, 0, none⟩) ∧ Bk wr g 75 #[.slice Ba m0 ca, .slice Bb m1 cb] ∧ Rd wr Ba (N0.map .string) ∧ Rd wr Bb (N1.map .string))
 case first =>
  as_aux_lemma =>
   have hbl := (oP1.out _ (oP2.out _ hP2).1).2.1
   have hcon := C.h36 _ _ d7 (oP1.out _ (oP2.out _ hP2).1).2.2
   clear C Gp
   go_wp2_with (first
    | (refine wpList_load_row rfl 54 _ rfl g6 rfl 54 tc.toArray (0, 0) _ hbl Tryz.underlying54 rfl Gt.i54 ?_)
    | (go_at_call 36; (with_reducible refine hcon.mono ?_); rintro e w2 ⟨⟨Ba, ca, Bb, cb, rfl, hr0, hr1⟩, hb2⟩))
   go_meet
   exact ⟨kP2 _ _ (kP2 _ _ hP2 hb2) (bt_new w2 _), rfl, _, Ba, ca, Bb, cb, rfl, Bk.new w2 75 _, hr0.below (bt_new w2 _), hr1.below (bt_new w2 _)⟩
 case rest =>
 obtain ⟨hPc, rfl, g10, Ba, ca, Bb, cb, rfl, hb10, hra, hrb⟩ := hcut
 clear hP2
 obtain ⟨R, kR, hR, oR⟩ : ∃ R : World → Prop, Keep R ∧ R wc ∧ Hid (∀ X, R X → P X ∧ (Bk X g6 54 tc.toArray ∧ RdC X B7 l) ∧ RdS X B8 S ∧ Bk X g10 75 #[.slice Ba m0 ca, .slice Bb m1 cb] ∧ Rd X Ba (N0.map .string) ∧ Rd X Bb (N1.map .string)) :=
  ⟨fun X => P2 X ∧ Bk X g10 75 #[.slice Ba m0 ca, .slice Bb m1 cb] ∧ Rd X Ba (N0.map .string) ∧ Rd X Bb (N1.map .string), keep_and kP2 (keep_and (keep_bk _ _ _) (keep_and (keep_rd _ _) (keep_rd _ _))), ⟨hPc, hb10, hra, hrb⟩, fun X h => ⟨(oP1.out _ (oP2.out _ h.1).1).1, (oP1.out _ (oP2.out _ h.1).1).2, (oP2.out _ h.1).2, h.2⟩⟩
 clear hPc hb10 hra hrb kP1 oP1 kP2 oP2
 generalize wc = W3 at hR ⊢
 go_upto_region 7 with fail
 go_cut [96] from 71 to 96 (fun s96 wr => s96 = .bool false ∧ R wr)
 case first =>
  as_aux_lemma =>
   have hbk := (oR.out _ hR).2.2.2.1
   have y0 : W3.cell? ⟨g10, 0, none⟩ = some (.slice Ba m0 ca) := by rw [hbk.cell]; rfl
   have y1 : W3.cell? ⟨g10, 1, none⟩ = some (.slice Bb m1 cb) := by rw [hbk.cell]; rfl
   obtain ⟨e1, e2, e3, e4, e5⟩ := C.hm
   have few := C.st.few
   rw [e1] at few
   have a1 : ¬ (m : Int) < 18 := by omega
   have a2 : ¬ (100 : Int) < (m : Int) := by omega
   have a3 : ¬ (17 : Int) < (m0 : Int) := by omega
   have a4 : ¬ (17 : Int) < (m1 : Int) := by omega
   have b1 : decide ((m : Int) < 18) = false := decide_eq_false a1
   have b2 : decide ((100 : Int) < (m : Int)) = false := decide_eq_false a2
   have b3 : decide ((17 : Int) < (m0 : Int)) = false := decide_eq_false a3
   have b4 : decide ((17 : Int) < (m1 : Int)) = false := decide_eq_false a4
   have wz : IntKind.i64.wrap 0 = 0 := by decide
   have HR := Lib.hid hR
   clear C Gp Gt oR hbk few e1 e2 e3 e4 e5 hR
   go_wp2
   go_meet
   exact ⟨by first | rfl | simp, HR.out⟩
 case rest =>
 obtain ⟨rfl, hRc⟩ := hcut
 clear hR
 generalize wc = W4 at hRc ⊢
 go_step
 go_upto_region 9 with fail
 go_cut [12] from 97 to 97 (fun s12 wr => s12 = .int .i64 0 ∧ R wr)
 case first =>
  go_wp2
  go_meet
  exact ⟨rfl, hRc⟩
 case rest =>
 obtain ⟨rfl, hR⟩ := hcut
 clear hRc
 generalize wc = W5 at hR ⊢
 go_step
 go_step
 go_cut [12] from 97 to 161 (fun s12 wr => s12 = .int .i64 (m : Int) ∧ R wr)
 case first =>
  as_aux_lemma =>
   have HS : Hid (∀ X, R X → RdS X B8 S) := fun X h => (oR.out _ h).2.2.1
   have St := Lib.hid C.st
   have Hm := Lib.hid C.hm.1
   have few := C.st.few
   rw [Hm.out] at few
   have hN := C.hN
   clear C Gp Gt oR hb kR
   go_wp2
   go_loopw [12, 97] (fun a i wr => ∃ sd : Nat, sd ≤ 2 ∧ i = .int .i64 sd ∧ a = .int .i64 (pq (9 * sd) : Nat) ∧ R wr) (fun _ i _ => 2 - (intOf i).toNat)
   case atStart => exact ⟨0, by omega, rfl, by rw [Nat.mul_zero, St.out.p0]; rfl, hR⟩
   case round =>
    clear hR
    obtain ⟨sd, hsd, rfl, rfl, hR⟩ := hrel
    by_cases hs2 : sd < 2
    ·
     have q1 : (sd : Int) < 2 := by omega
     have dq1 : decide ((sd : Int) < 2) = true := decide_eq_true q1
     go_wp2
     go_loopw [12, 14] (fun a s wr => ∃ j : Nat, j ≤ 9 ∧ s = .int .i64 ((j : Int) + 1) ∧ a = .int .i64 (pq (9 * sd + j) : Nat) ∧ R wr) (fun _ s _ => 10 - (intOf s).toNat)
     case atStart => exact ⟨0, by omega, rfl, rfl, hR⟩
     case round =>
      clear hR
      obtain ⟨j, hj, rfl, rfl, hR⟩ := hrel
      by_cases hj9 : j < 9
      ·
       have q2 : (j : Int) + 1 ≤ 9 := by omega
       have dq2 : decide ((j : Int) + 1 ≤ 9) = true := decide_eq_true q2
       obtain ⟨p, hp⟩ : ∃ p, p = pq (9 * sd + j) := ⟨_, rfl⟩
       obtain ⟨p', hp'⟩ : ∃ p', p' = pq (9 * sd + (j + 1)) := ⟨_, rfl⟩
       have F : Hid ((∀ i, p ≤ i → i < p' → (S.getD i noSti).side = sd ∧ (S.getD i noSti).slot = (j : Int) + 1 ∧ (S.getD i noSti).fr = nxt S p i ∧ (S.getD i noSti).fr < (S.getD i noSti).to ∧ (S.getD i noSti).to ≤ N) ∧ nxt S p p' = N ∧ (p' < m → ¬ ((S.getD p' noSti).side = sd ∧ (S.getD p' noSti).slot = (j : Int) + 1)) ∧ p ≤ p' ∧ p' ≤ m) := by
        have hq : 9 * sd + j < 18 := by omega
        have e1 : (((9 * sd + j) / 9 : Nat) : Int) = sd := by omega
        have e2 : (((9 * sd + j) % 9 : Nat) : Int) + 1 = (j : Int) + 1 := by omega
        have f1 := St.out.at_ _ hq
        have f2 := St.out.stop _ hq
        have f3 := St.out.other _ hq
        have f4 := St.out.lo _ hq
        have f5 := St.out.hi (9 * sd + (j + 1)) (by omega)
        have e3 : 9 * sd + j + 1 = 9 * sd + (j + 1) := by omega
        rw [e1, e2, e3, ← hp, ← hp'] at f1
        rw [e3, ← hp, ← hp'] at f2
        rw [e1, e2, e3, ← hp', Hm.out] at f3
        rw [e3, ← hp, ← hp'] at f4
        rw [← hp', Hm.out] at f5
        exact ⟨f1, f2, f3, f4, f5⟩
       have Hp' := Lib.hid hp'
       rw [← hp]
       clear hp hp'
       go_wp2
       go_loopw [12, 15] (fun a x wr => ∃ i : Nat, p ≤ i ∧ i ≤ p' ∧ a = .int .i64 i ∧ x = .int .i64 (nxt S p i) ∧ R wr) (fun a _ _ => p' - (intOf a).toNat)
       case atStart => exact ⟨p, Nat.le_refl _, F.out.2.2.2.1, rfl, by unfold nxt; rw [if_pos rfl], hR⟩
       case round =>
        clear hR
        obtain ⟨i, hi, hi', rfl, rfl, hR⟩ := hrel
        obtain ⟨x, hx⟩ : ∃ x, x = nxt S p i := ⟨_, rfl⟩
        rw [← hx]
        have Hx := Lib.hid hx; have Hi := Lib.hid (And.intro hi hi')
        clear hx hi hi'
        go_upto_region 17 with fail
        go_cut [125] from 104 to 125 (fun s125 wr => s125 = .bool (decide (i < p')) ∧ R wr)
        case first =>
         as_aux_lemma =>
          have Hgoal := Lib.hid hR
          by_cases hlt : i < p'
          ·
           obtain ⟨g1, g2, _⟩ := F.out.1 i Hi.out.1 hlt
           have him : i < m := Nat.lt_of_lt_of_le hlt F.out.2.2.2.2
           obtain ⟨b8, off8, rfl, hc⟩ := (HS.out _ hR) i (by rw [Hm.out]; exact him)
           have c0 : wr.cell? ⟨b8, off8 + i * 6, none⟩ = some (.int .i64 sd) := (hc 0 (by omega)).trans (congrArg (fun z => some (Value.int IntKind.i64 z)) g1)
           have c1 : wr.cell? ⟨b8, off8 + i * 6 + 1, none⟩ = some (.int .i64 ((j : Int) + 1)) := (hc 1 (by omega)).trans (congrArg (fun z => some (Value.int IntKind.i64 z)) g2)
           have a1 : (i : Int) < (m : Int) := by omega
           have d1 : decide ((i : Int) < (m : Int)) = true := decide_eq_true a1
           have z0 : (0 : Int) ≤ (i : Int) := by omega
           have hd : Hid (decide (i < p') = true) := decide_eq_true hlt
           clear hlt him hc g1 g2 F Hi Hp' Hx St HS hR few hN hj hsd hs2 hj9
           go_wp2
           go_meet
           exact ⟨by rw [hd.out], Hgoal.out⟩
          ·
           have hip : i = p' := by have := Hi.out.2; omega
           have hd : Hid (decide (i < p') = false) := decide_eq_false hlt
           by_cases him : i < m
           ·
            have hne := F.out.2.2.1 (by rw [← hip]; exact him)
            rw [← hip] at hne
            obtain ⟨b8, off8, rfl, hc⟩ := (HS.out _ hR) i (by rw [Hm.out]; exact him)
            generalize S.getD i noSti = e at hc hne
            have c0 : wr.cell? ⟨b8, off8 + i * 6, none⟩ = some (.int .i64 e.side) := hc 0 (by omega)
            have c1 : wr.cell? ⟨b8, off8 + i * 6 + 1, none⟩ = some (.int .i64 e.slot) := hc 1 (by omega)
            have a1 : (i : Int) < (m : Int) := by omega
            have d1 : decide ((i : Int) < (m : Int)) = true := decide_eq_true a1
            have z0 : (0 : Int) ≤ (i : Int) := by omega
            by_cases hs : e.side = sd
            ·
             have es : (e.side == (sd : Int)) = true := by simpa using hs
             have et : (e.slot == (j : Int) + 1) = false := by simpa using fun h => hne ⟨hs, h⟩
             clear hlt him hip hc hs hne F Hi Hp' Hx St HS hR few hN hj hsd hs2 hj9
             go_wp2
             go_meet
             exact ⟨by rw [hd.out], Hgoal.out⟩
            ·
             have es : (e.side == (sd : Int)) = false := by simpa using hs
             clear hlt him hip hc hs hne F Hi Hp' Hx St HS hR few hN hj hsd hs2 hj9
             go_wp2
             go_meet
             exact ⟨by rw [hd.out], Hgoal.out⟩
           ·
            have a1 : ¬ (i : Int) < (m : Int) := by omega
            have d1 : decide ((i : Int) < (m : Int)) = false := decide_eq_false a1
            clear hlt him hip F Hi Hp' Hx St HS hR few hN hj hsd hs2 hj9
            go_wp2
            go_meet
            exact ⟨by rw [hd.out], Hgoal.out⟩
        case rest =>
        obtain ⟨rfl, hRc⟩ := hcut
        clear hR
        by_cases hlt : i < p'
        ·
         rw [decide_eq_true hlt]
         obtain ⟨_, _, g3, g4, g5⟩ := F.out.1 i Hi.out.1 hlt
         rw [← Hx.out] at g3
         have him : i < m := Nat.lt_of_lt_of_le hlt F.out.2.2.2.2
         obtain ⟨b8, off8, rfl, hc⟩ := (HS.out _ hRc) i (by rw [Hm.out]; exact him)
         obtain ⟨y, hy⟩ : ∃ y, y = (S.getD i noSti).to := ⟨_, rfl⟩
         rw [← hy] at g4 g5
         have c4 : wc.cell? ⟨b8, off8 + i * 6 + 4, none⟩ = some (.int .i64 x) := (hc 4 (by omega)).trans (congrArg (fun z => some (Value.int IntKind.i64 z)) g3)
         have c5 : wc.cell? ⟨b8, off8 + i * 6 + 5, none⟩ = some (.int .i64 y) := (hc 5 (by omega)).trans (congrArg (fun z => some (Value.int IntKind.i64 z)) hy.symm)
         have a1 : (i : Int) < (m : Int) := by omega
         have d1 : decide ((i : Int) < (m : Int)) = true := decide_eq_true a1
         have z0 : (0 : Int) ≤ (i : Int) := by omega
         rw [g3] at g4
         have a2 : ¬ y ≤ x := by omega
         have d2 : decide (y ≤ x) = false := decide_eq_false a2
         have a3 : ¬ (N : Int) < y := by omega
         have d3 : decide ((N : Int) < y) = false := decide_eq_false a3
         have u1 : IntKind.i64.wrap ((i : Int) + 1) = (i : Int) + 1 := IntWalk.i64_in _ (by omega)
         have Hlt := Lib.hid hlt; have Hy := Lib.hid hy
         clear g3 g4 g5 hc hlt him hy few hN hj hsd hs2 hj9
         go_wp2
         go_roundw
         case rel => exact ⟨i + 1, by have := Hi.out.1; omega, by have := Hlt.out; omega, by go_num, by rw [Hy.out]; unfold nxt; rw [if_neg (by have := Hi.out.1; omega), Nat.add_sub_cancel]; rfl, hRc⟩
         case measure => have := Hlt.out; simp [intOf]; omega
        ·
         rw [decide_eq_false hlt]
         have hip : i = p' := by have := Hi.out.2; omega
         have hxN : x = N := by rw [Hx.out, hip]; exact F.out.2.1
         subst hxN
         have u1 : IntKind.i64.wrap ((j : Int) + 1 + 1) = (j : Int) + 1 + 1 := IntWalk.i64_in _ (by omega)
         have Hip := Lib.hid hip
         have Hj9 := Lib.hid hj9
         clear hip hlt few hN hj hsd hs2 hj9
         go_wp2
         go_roundw
         case rel => exact ⟨j + 1, by have := Hj9.out; omega, by go_num, by rw [Hip.out, Hp'.out], hRc⟩
         case measure => have := Hj9.out; simp [intOf]; omega
      ·
       have q2 : ¬ (j : Int) + 1 ≤ 9 := by omega
       have dq2 : decide ((j : Int) + 1 ≤ 9) = false := decide_eq_false q2
       have Hj : Hid (j = 9 ∧ sd < 2) := ⟨by omega, hs2⟩
       have u1 : IntKind.i64.wrap ((sd : Int) + 1) = (sd : Int) + 1 := IntWalk.i64_in _ (by omega)
       clear hj hj9 few hN hsd hs2
       go_wp2
       go_roundw
       case rel => exact ⟨sd + 1, by have := Hj.out.2; omega, by go_num, by rw [show 9 * (sd + 1) = 9 * sd + j by have := Hj.out.1; omega], hR⟩
       case measure => have := Hj.out.2; simp [intOf]; omega
    ·
     have q1 : ¬ (sd : Int) < 2 := by omega
     have dq1 : decide ((sd : Int) < 2) = false := decide_eq_false q1
     have Hsd : Hid (pq (9 * sd) = m) := by show _ = _; rw [show 9 * sd = 18 by omega, St.out.p18]; exact Hm.out
     clear hsd hs2 few hN
     go_wp2
     go_meet
     exact ⟨by rw [Hsd.out], hR⟩
 case rest =>
 obtain ⟨rfl, hRc⟩ := hcut
 clear hR
 generalize wc = W6 at hRc ⊢
 go_upto_region 25 with fail
 go_cut [165] from 162 to 165 (fun s165 wr => s165 = .bool false ∧ R wr)
 case first =>
  go_wp2
  go_meet
  exact ⟨by first | rfl | simp, hRc⟩
 case rest =>
 obtain ⟨rfl, hR⟩ := hcut
 clear hRc
 generalize wc = W7 at hR ⊢
 go_step
 go_step
 go_step
 go_step
 go_step
 go_step
 go_cut [] from 166 to 273 (fun wr => R wr)
 case first =>
  as_aux_lemma =>
   have HR6 : Hid (∀ X, R X → Bk X g6 54 tc.toArray ∧ RdC X B7 l) := fun X h => (oR.out _ h).2.1
   have HN := Lib.hid C.hN
   have Hc := Lib.hid C
   have Gl := C.gc
   clear C Gp Gt oR hb
   go_wp2
   go_loopw [167] (fun i wr => ∃ k : Nat, k ≤ N ∧ i = .int .i64 k ∧ R wr) (fun i _ => N - (intOf i).toNat)
   case atStart => exact ⟨0, by omega, rfl, hR⟩
   case round =>
    clear hR
    obtain ⟨k, hk, rfl, hR⟩ := hrel
    by_cases hkn : k < N
    ·
     have hkl : (k : Int) < (N : Int) := by omega
     have dkl : decide ((k : Int) < (N : Int)) = true := decide_eq_true hkl
     have Hk := Lib.hid hkn
     clear hk hkn
     go_upto_region 30 with fail
     go_cut [17, 18] from 168 to 176 (fun sp se wr => R wr ∧ se = .int .i64 0 ∧ ∃ g, sp = .pointer (some ⟨g, 0, none⟩) ∧ Bk wr g 54 (ta k).toArray)
     case first =>
      as_aux_lemma =>
       have hcon := Hc.out.h35 k _ _ d7 Hk.out (HR6.out _ hR).2
       have Gs := Hc.out.ga k
       have hbl := (HR6.out _ hR).1
       clear Hc hkl dkl
       go_wp2_with (first
        | (refine wpList_load_row rfl 54 _ rfl g6 rfl 54 tc.toArray (0, 0) _ hbl Tryz.underlying54 rfl Gl.i54 ?_)
        | (go_at_call 35; (with_reducible refine hcon.mono ?_); rintro e w2 ⟨rfl, hb2⟩; have hP2 := kR _ _ hR hb2; have hb := Bk.new w2 54 z36)
        | (refine wpList_store_mid rfl 54 (.tmp 17) (.tmp 175) rfl w2.heap.size 0 (ta k).toArray rfl rfl (hb.there _ (by rw [Gs.s36]; decide)) Gs.i54 Gs.one ?_))
       go_meet
       exact ⟨kR _ _ hP2 (below_sets (Nat.le_refl _) (bt_new w2 _) _ _), rfl, w2.heap.size, rfl, new_teams w2 (ta k) Gs.s36⟩
     case rest =>
     obtain ⟨hPc, rfl, g17, rfl, hb17⟩ := hcut
     clear hR
     obtain ⟨Q, kQ, hQ, oQ⟩ : ∃ Q : World → Prop, Keep Q ∧ Q wc ∧ Hid (∀ X, Q X → R X ∧ Bk X g17 54 (ta k).toArray) := ⟨fun X => R X ∧ Bk X g17 54 (ta k).toArray, keep_and kR (keep_bk _ _ _), ⟨hPc, hb17⟩, fun _ h => h⟩
     clear hPc hb17
     generalize wc = V1 at hQ ⊢
     go_upto_region 31 with fail
     go_cut [183] from 177 to 183 (fun s183 wr => s183 = .bool false ∧ Q wr)
     case first =>
      as_aux_lemma =>
       have f1 := (oQ.out _ hQ).2
       have Ga := Hc.out.ga k
       have h56 := Hc.out.h56 k
       have r1 : ∀ j, j < (ta k).length → V1.cell? ⟨g17, 0 + j, none⟩ = (ta k)[j]? := fun j hj => by rw [f1.cell, List.getElem?_toArray, Nat.zero_add]
       clear Hc hkl dkl
       go_wp2_with (first
        | (refine wpList_load_cells_g 54 _ rfl g17 0 rfl (ta k) r1 _ Tryz.underlying54 rfl Ga.l54 rfl ?_)
        | (go_at_call 56; (with_reducible refine (h56 _).mono ?_); rintro e w2 ⟨rfl, hb2⟩))
       go_meet
       exact ⟨by first | rfl | simp, kQ _ _ hQ hb2⟩
     case rest =>
     obtain ⟨rfl, hQc⟩ := hcut
     clear hQ
     generalize wc = V2 at hQc ⊢
     go_step
     go_wp2
     go_loopw [184] (fun i wr => ∃ sd : Nat, sd ≤ 2 ∧ i = .int .i64 sd ∧ Q wr) (fun i _ => 2 - (intOf i).toNat)
     case atStart => exact ⟨0, by omega, rfl, hQc⟩
     case round =>
      clear hQc
      obtain ⟨sd, hsd, rfl, hQ⟩ := hrel
      by_cases hs2 : sd < 2
      ·
       have q1 : (sd : Int) < 2 := by omega
       have dq1 : decide ((sd : Int) < 2) = true := decide_eq_true q1
       have Hs := Lib.hid hs2
       clear hsd hs2
       go_upto_region 35 with fail
       go_cut [19] from 186 to 186 (fun s19 wr => s19 = .int .i64 sd ∧ Q wr)
       case first =>
        go_wp2
        go_meet
        exact ⟨rfl, hQ⟩
       case rest =>
       obtain ⟨rfl, hQc⟩ := hcut
       clear hQ
       go_step
       go_step
       go_cut [20] from 187 to 242 (fun _ wr => Q wr)
       case first =>
        as_aux_lemma =>
         clear q1 dq1 hkl dkl
         go_wp2
         go_loopw [20] (fun p wr => ∃ j : Nat, j ≤ 9 ∧ p = .int .i64 ((j : Int) + 1) ∧ Q wr) (fun p _ => 10 - (intOf p).toNat)
         case atStart => exact ⟨0, by omega, rfl, hQc⟩
         case round =>
          clear hQc
          obtain ⟨j, hj, rfl, hQ⟩ := hrel
          by_cases hj9 : j < 9
          ·
           have q2 : (j : Int) + 1 ≤ 9 := by omega
           have dq2 : decide ((j : Int) + 1 ≤ 9) = true := decide_eq_true q2
           have Hj := Lib.hid hj9
           clear hj hj9
           go_upto_region 39 with fail
           go_cut [21, 22] from 191 to 199 (fun s21 s22 wr => s21 = .string (wh k sd (j + 1)) ∧ s22 = .int .i64 0 ∧ Q wr)
           case first =>
            as_aux_lemma =>
             have hbl := (HR6.out _ (oQ.out _ hQ).1).1
             have hcon : Calls Tryz.prog 37 #[.agg tc.toArray, .slice B7 n d7, .int .i64 k, .int .i64 sd, .int .i64 ((j : Int) + 1)] wr fun x w' => x = .returned (.tuple #[.string (wh k sd (j + 1)), .int .i64 0]) ∧ Below wr.heap.size wr w' := Hc.out.h37 k sd (j + 1) _ _ d7 Hk.out Hs.out (by omega) (by have := Hj.out; omega) (HR6.out _ (oQ.out _ hQ).1).2
             clear Hc q2 dq2
             go_wp2_with (first
              | (refine wpList_load_row rfl 54 _ rfl g6 rfl 54 tc.toArray (0, 0) _ hbl Tryz.underlying54 rfl Gl.i54 ?_)
              | (go_at_call 37; (with_reducible refine hcon.mono ?_); rintro e w2 ⟨rfl, hb2⟩))
             go_meet
             exact ⟨rfl, rfl, kQ _ _ hQ hb2⟩
           case rest =>
           obtain ⟨rfl, rfl, hQc⟩ := hcut
           clear hQ
           generalize wc = V3 at hQc ⊢
           go_upto_region 40 with fail
           go_cut [23, 24] from 200 to 208 (fun s23 s24 wr => s23 = .int .i64 ((ix k sd (j + 1) : Int) + 1) ∧ s24 = .int .i64 0 ∧ Q wr)
           case first =>
            as_aux_lemma =>
             have hbl := (HR6.out _ (oQ.out _ hQc).1).1
             have hcon := Hc.out.h49 k sd (j + 1) _ _ d7 Hk.out Hs.out (by omega) (by have := Hj.out; omega) (HR6.out _ (oQ.out _ hQc).1).2
             clear Hc q2 dq2
             go_wp2_with (first
              | (refine wpList_load_row rfl 54 _ rfl g6 rfl 54 tc.toArray (0, 0) _ hbl Tryz.underlying54 rfl Gl.i54 ?_)
              | (go_at_call 49; (with_reducible refine hcon.mono ?_); rintro e w2 ⟨rfl, hb2⟩))
             go_meet
             exact ⟨rfl, rfl, kQ _ _ hQc hb2⟩
           case rest =>
           obtain ⟨rfl, rfl, hQ⟩ := hcut
           clear hQc
           generalize wc = V4 at hQ ⊢
           go_upto_region 41 with fail
           go_cut [242] from 209 to 242 (fun s242 wr => s242 = .bool false ∧ Q wr)
           case first =>
            as_aux_lemma =>
             obtain ⟨h1, h2, h3⟩ := Hc.out.hi k sd (j + 1) Hk.out Hs.out (by omega) (by have := Hj.out; omega)
             have f1 := (oQ.out _ hQ).2
             have y1 : V4.cell? ⟨g17, sd * 18 + ix k sd (j + 1), none⟩ = some (.string (wh k sd (j + 1))) := by rw [f1.cell, List.getElem?_toArray, h2]
             have y2 : V4.cell? ⟨g17, sd * 18 + 9 + ix k sd (j + 1), none⟩ = some (.int .i64 ((j : Int) + 1)) := by rw [f1.cell, List.getElem?_toArray, h3]; rfl
             have s0 : (0 : Int) ≤ (sd : Int) := by omega
             have s1 : (sd : Int) < 2 := by have := Hs.out; omega
             clear Hc f1 h2 h3
             generalize ix k sd (j + 1) = ii at *
             generalize wh k sd (j + 1) = ww at *
             have t0 : (0 : Int) ≤ (ii : Int) := by omega
             have t1 : (ii : Int) < 9 := by omega
             have u1 : IntKind.i64.wrap ((ii : Int) + 1 - 1) = (ii : Int) := by rw [IntWalk.i64_in _ (by omega)]; omega
             have a1 : ¬ (ii : Int) + 1 < 1 := by omega
             have d1 : decide ((ii : Int) + 1 < 1) = false := decide_eq_false a1
             have a2 : ¬ (9 : Int) < (ii : Int) + 1 := by omega
             have d2 : decide ((9 : Int) < (ii : Int) + 1) = false := decide_eq_false a2
             have wz : IntKind.i64.wrap 0 = 0 := by decide
             have HQ := Lib.hid hQ
             clear h1 hQ q2 dq2
             go_wp2
             go_meet
             exact ⟨by first | rfl | simp, HQ.out⟩
           case rest =>
           obtain ⟨rfl, hQc⟩ := hcut
           clear hQ
           have u1 : IntKind.i64.wrap ((j : Int) + 1 + 1) = (j : Int) + 1 + 1 := IntWalk.i64_in _ (by have := Hj.out; omega)
           go_wp2
           go_roundw
           case rel => exact ⟨j + 1, by have := Hj.out; omega, by go_num, hQc⟩
           case measure => have := Hj.out; simp [intOf]; omega
          ·
           have q2 : ¬ (j : Int) + 1 ≤ 9 := by omega
           have dq2 : decide ((j : Int) + 1 ≤ 9) = false := decide_eq_false q2
           clear hj hj9
           go_wp2
           go_meet
           exact hQ
       case rest =>
       clear hQc
       have hQ5 := hcut
       clear hcut
       generalize wc = V5 at hQ5 ⊢
       go_upto_region 43 with fail
       go_cut [25, 26] from 243 to 250 (fun s25 s26 wr => s26 = .int .i64 0 ∧ ∃ B0 c0, s25 = .slice B0 (gn k sd).length c0 ∧ Q wr ∧ Rd wr B0 ((gn k sd).map .string))
       case first =>
        as_aux_lemma =>
         have hbl := (HR6.out _ (oQ.out _ hQ5).1).1
         have hcon := Hc.out.h50 k sd _ _ d7 Hk.out Hs.out (HR6.out _ (oQ.out _ hQ5).1).2
         clear Hc q1 dq1 hkl dkl
         go_wp2_with (first
          | (refine wpList_load_row rfl 54 _ rfl g6 rfl 54 tc.toArray (0, 0) _ hbl Tryz.underlying54 rfl Gl.i54 ?_)
          | (go_at_call 50; (with_reducible refine hcon.mono ?_); rintro e w2 ⟨⟨B0, c0, rfl, hr0⟩, hb2⟩))
         go_meet
         exact ⟨rfl, B0, c0, rfl, kQ _ _ hQ5 hb2, hr0⟩
       case rest =>
       obtain ⟨rfl, B25, c25, rfl, hQ, hr25⟩ := hcut
       clear hQ5
       obtain ⟨T, kT, hT, oT⟩ : ∃ T : World → Prop, Keep T ∧ T wc ∧ Hid (∀ X, T X → Q X ∧ Rd X B25 ((gn k sd).map .string)) := ⟨fun X => Q X ∧ Rd X B25 ((gn k sd).map .string), keep_and kQ (keep_rd _ _), ⟨hQ, hr25⟩, fun _ h => h⟩
       clear hQ hr25
       generalize wc = V6 at hT ⊢
       have hg8 := Hc.out.hg k sd
       obtain ⟨GN, hGN⟩ : ∃ GN, GN = gn k sd := ⟨_, rfl⟩
       obtain ⟨gm, hgm⟩ : ∃ gm, gm = GN.length := ⟨_, rfl⟩
       rw [← hGN] at oT hg8 ⊢
       rw [← hgm] at hg8 ⊢
       have HG := Lib.hid (And.intro hGN hgm)
       clear hGN hgm
       go_wp2
       go_loopw [255] (fun i wr => ∃ e : Nat, e ≤ gm ∧ i = .int .i64 e ∧ T wr) (fun i _ => gm - (intOf i).toNat)
       case atStart => exact ⟨0, Nat.zero_le _, rfl, hT⟩
       case round =>
        clear hT
        obtain ⟨e, he, rfl, hT⟩ := hrel
        by_cases hem : e < gm
        ·
         have hel : (e : Int) < (gm : Int) := by omega
         have del : decide ((e : Int) < (gm : Int)) = true := decide_eq_true hel
         have z0 : (0 : Int) ≤ (e : Int) := by omega
         obtain ⟨b, off, rfl, hc⟩ := Rd.at_ (oT.out _ hT).2 (k := e) (by rw [List.length_map, ← HG.out.2]; exact hem)
         have heG : e < GN.length := by rw [← HG.out.2]; exact hem
         obtain ⟨nm, hnm⟩ : ∃ nm, nm = GN.getD e .empty := ⟨_, rfl⟩
         have y0 : wr.cell? ⟨b, off + e, none⟩ = some (.string nm) := by rw [hc, hnm]; simp [List.getD, List.getElem?_eq_getElem heG]
         have Hnm := Lib.hid hnm
         clear hnm
         have q3 : Hid (wrap64 ((N : Int) - 1) = (N : Int) - 1) := IntWalk.wrap64_in _ (by have := HN.out; omega)
         have u1 : IntKind.i64.wrap ((e : Int) + 1) = (e : Int) + 1 := IntWalk.i64_in _ (by omega)
         have He := Lib.hid hem
         clear hc he hem heG
         go_upto_region 49 with fail
         go_cut [29, 30] from 259 to 268 (fun _ s30 wr => s30 = .int .i64 10 ∧ T wr)
         case first =>
          as_aux_lemma =>
           have hbl := (HR6.out _ (oQ.out _ (oT.out _ hT).1).1).1
           have hcon : Calls Tryz.prog 49 #[.agg tc.toArray, .slice B7 n d7, .int .i64 ((N : Int) - 1), .int .i64 sd, .string nm] wr fun x w' => x = .returned (.tuple #[.int .i64 0, .int .i64 10]) ∧ Below wr.heap.size wr w' := by
            have := Hc.out.h49g k sd e _ _ d7 Hk.out Hs.out (by rw [← HG.out.1, ← HG.out.2]; exact He.out) (HR6.out _ (oQ.out _ (oT.out _ hT).1).1).2
            rw [← HG.out.1, ← Hnm.out] at this
            exact this
           clear Hc q1 dq1 hkl dkl y0 hel del
           go_wp2_with (first
            | (refine wpList_load_row rfl 54 _ rfl g6 rfl 54 tc.toArray (0, 0) _ hbl Tryz.underlying54 rfl Gl.i54 ?_)
            | (go_at_call 49; (try rw [q3.out]); (with_reducible refine hcon.mono ?_); rintro e w2 ⟨rfl, hb2⟩))
           go_meet
           exact ⟨rfl, kT _ _ hT hb2⟩
         case rest =>
         obtain ⟨rfl, hTc⟩ := hcut
         clear hT y0
         go_wp2
         go_roundw
         case rel => exact ⟨e + 1, by have := He.out; omega, by go_num, hTc⟩
         case measure => have := He.out; simp [intOf]; omega
        ·
         have hel : ¬ (e : Int) < (gm : Int) := by omega
         have del : decide ((e : Int) < (gm : Int)) = false := decide_eq_false hel
         have u1 : IntKind.i64.wrap ((sd : Int) + 1) = (sd : Int) + 1 := IntWalk.i64_in _ (by have := Hs.out; omega)
         clear he hem
         go_wp2
         go_roundw
         case rel => exact ⟨sd + 1, by have := Hs.out; omega, by go_num, (oT.out _ hT).1⟩
         case measure => have := Hs.out; simp [intOf]; omega
      ·
       have q1 : ¬ (sd : Int) < 2 := by omega
       have dq1 : decide ((sd : Int) < 2) = false := decide_eq_false q1
       have u1 : IntKind.i64.wrap ((k : Int) + 1) = (k : Int) + 1 := IntWalk.i64_in _ (by have := Hk.out; have := HN.out; omega)
       clear hsd hs2
       go_wp2
       go_roundw
       case rel => exact ⟨k + 1, by have := Hk.out; omega, by go_num, (oQ.out _ hQ).1⟩
       case measure => have := Hk.out; simp [intOf]; omega
    ·
     have hkl : ¬ (k : Int) < (N : Int) := by omega
     have dkl : decide ((k : Int) < (N : Int)) = false := decide_eq_false hkl
     clear hk hkn
     go_wp2
     go_meet
     exact hR
 case rest =>
 clear hR
 have hR8 := hcut
 clear hcut
 generalize wc = W8 at hR8 ⊢
 go_upto_region 55 with fail
 go_cut [31] from 274 to 274 (fun s31 wr => s31 = .int .i64 0 ∧ R wr)
 case first =>
  go_wp2
  go_meet
  exact ⟨rfl, hR8⟩
 case rest =>
 obtain ⟨rfl, hR⟩ := hcut
 clear hR8
 generalize wc = W9 at hR ⊢
 go_step
 go_step
 go_cut [31] from 274 to 322 (fun s31 wr => s31 = .int .i64 (18 * (N : Int)) ∧ R wr)
 case first =>
  as_aux_lemma =>
   have HR6 : Hid (∀ X, R X → (Bk X g6 54 tc.toArray ∧ RdC X B7 l) ∧ RdS X B8 S) := fun X h => ⟨(oR.out _ h).2.1, (oR.out _ h).2.2.1⟩
   have HRN : Hid (∀ X, R X → Bk X g10 75 #[.slice Ba m0 ca, .slice Bb m1 cb] ∧ Rd X Ba (N0.map .string) ∧ Rd X Bb (N1.map .string)) := fun X h => (oR.out _ h).2.2.2
   have HN := Lib.hid C.hN
   have Hc := Lib.hid C
   have Gl := C.gc
   clear C Gp Gt oR hb
   go_wp2
   go_loopw [31, 274] (fun t i wr => ∃ (sd : Nat) (v : Int), sd ≤ 2 ∧ i = .int .i64 sd ∧ t = .int .i64 v ∧ (sd = 0 → v = totS N0 N1 S 0 0) ∧ (sd = 1 → v = totS N0 N1 S 1 0) ∧ (sd = 2 → v = 18 * (N : Int)) ∧ R wr) (fun _ i _ => 2 - (intOf i).toNat)
   case atStart => exact ⟨0, 0, by omega, rfl, rfl, fun _ => rfl, (fun h => by omega), (fun h => by omega), hR⟩
   case round =>
    clear hR
    obtain ⟨sd, v, hsd, rfl, rfl, hv0, hv1, hv2, hR⟩ := hrel
    by_cases hs2 : sd < 2
    ·
     have q1 : (sd : Int) < 2 := by omega
     have dq1 : decide ((sd : Int) < 2) = true := decide_eq_true q1
     have q0 : (0 : Int) ≤ (sd : Int) := by omega
     obtain ⟨Bx, mx, cx, Nx, hcx, hrx, hlx, hmx, hin, hst, hend⟩ : ∃ (Bx : Option Addr) (mx cx : Nat) (Nx : List Str), (∀ X, R X → X.cell? ⟨g10, sd, none⟩ = some (.slice Bx mx cx)) ∧ (∀ X, R X → Rd X Bx (Nx.map .string)) ∧ Nx.length = mx ∧ mx ≤ 17 ∧ (∀ x ∈ Nx, x ∈ N0 ∨ x ∈ N1) ∧ (∀ i, i < mx → totS N0 N1 S sd (i + 1) = totS N0 N1 S sd i + sumOf S (Nx.getD i .empty)) ∧ (sd = 0 → totS N0 N1 S sd mx = totS N0 N1 S 1 0) ∧ (sd = 1 → totS N0 N1 S sd mx = 18 * (N : Int)) := by
      obtain ⟨e1, e2, e3, e4, e5⟩ := Hc.out.hm
      rcases (show sd = 0 ∨ sd = 1 by omega) with h | h
      ·
       refine ⟨Ba, m0, ca, N0, fun X hX => by rw [(HRN.out X hX).1.cell, h]; rfl, fun X hX => (HRN.out X hX).2.1, e2, e4, fun x hx => .inl hx, fun i hi => ?_, fun _ => ?_, fun h1 => by omega⟩
       ·
        rw [h]; unfold totS; rw [if_pos rfl, if_pos rfl]; exact sum_takeS N0 (sumOf S) i (by omega)
       ·
        rw [h]; unfold totS; rw [if_pos rfl, if_neg (by omega), List.take_of_length_le (by omega)]; simp
      ·
       refine ⟨Bb, m1, cb, N1, fun X hX => by rw [(HRN.out X hX).1.cell, h]; rfl, fun X hX => (HRN.out X hX).2.2, e3, e5, fun x hx => .inr hx, fun i hi => ?_, fun h1 => by omega, fun _ => ?_⟩
       ·
        rw [h]; unfold totS; rw [if_neg (by omega), if_neg (by omega), sum_takeS N1 (sumOf S) i (by omega)]; omega
       ·
        rw [h]; exact Hc.out.tl
     have hv : v = totS N0 N1 S sd 0 := by
      rcases (show sd = 0 ∨ sd = 1 by omega) with h | h
      ·
       rw [h]; exact hv0 h
      ·
       rw [h]; exact hv1 h
     have htb := Hc.out.tb sd
     have Hs := Lib.hid (And.intro hs2 hv)
     have Hx := Lib.hid (And.intro hrx (And.intro hlx (And.intro hin (And.intro hst (And.intro hend htb)))))
     have y0 := hcx _ hR
     clear hsd hs2 hv0 hv1 hv2 hv hrx hlx hin hst hend htb hcx
     rw [Hs.out.2]
     go_wp2
     go_loopw [31, 281] (fun t i wr => ∃ e : Nat, e ≤ mx ∧ i = .int .i64 e ∧ t = .int .i64 (totS N0 N1 S sd e) ∧ R wr) (fun _ i _ => mx - (intOf i).toNat)
     case atStart => exact ⟨0, Nat.zero_le _, rfl, rfl, hR⟩
     case round =>
      clear hR y0
      obtain ⟨e, he, rfl, rfl, hR⟩ := hrel
      by_cases hem : e < mx
      ·
       have hel : (e : Int) < (mx : Int) := by omega
       have del : decide ((e : Int) < (mx : Int)) = true := decide_eq_true hel
       have z0 : (0 : Int) ≤ (e : Int) := by omega
       obtain ⟨b, off, rfl, hc⟩ := Rd.at_ (Hx.out.1 _ hR) (k := e) (by rw [List.length_map, Hx.out.2.1]; exact hem)
       have heG : e < Nx.length := by rw [Hx.out.2.1]; exact hem
       obtain ⟨name, hname⟩ : ∃ name, name = Nx.getD e .empty := ⟨_, rfl⟩
       have y0 : wr.cell? ⟨b, off + e, none⟩ = some (.string name) := by rw [hc, hname]; simp [List.getD, List.getElem?_eq_getElem heG]
       have hmem : name ∈ N0 ∨ name ∈ N1 := Hx.out.2.2.1 name (by rw [hname]; simp [List.getD, List.getElem?_eq_getElem heG])
       have hst := Hx.out.2.2.2.1 e hem
       rw [← hname] at hst
       have htb0 := Hx.out.2.2.2.2.2 e
       have htb1 := Hx.out.2.2.2.2.2 (e + 1)
       rw [hst] at htb1
       have u1 : IntKind.i64.wrap ((e : Int) + 1) = (e : Int) + 1 := IntWalk.i64_in _ (by omega)
       have u2 : IntKind.i64.wrap (totS N0 N1 S sd e + sumOf S name) = totS N0 N1 S sd e + sumOf S name := IntWalk.i64_in _ (by omega)
       have He := Lib.hid hem
       have Hn := Lib.hid (And.intro hmem hst)
       clear hc he hem heG hname hmem hst htb0 htb1
       generalize totS N0 N1 S sd e = acc at *
       go_upto_region 62 with fail
       go_cut [35] from 285 to 286 (fun s35 wr => s35 = .int .i64 0 ∧ R wr)
       case first =>
        go_wp2
        go_meet
        exact ⟨rfl, hR⟩
       case rest =>
       obtain ⟨rfl, hRc⟩ := hcut
       clear hR y0
       go_step
       go_step
       go_cut [35] from 285 to 302 (fun s35 wr => s35 = .int .i64 (sumOf S name) ∧ R wr)
       case first =>
        as_aux_lemma =>
         have Hm := Lib.hid Hc.out.hm.1
         have Hsb := Lib.hid (fun i => Hc.out.sb name i)
         have Hbd := Lib.hid Hc.out.st.bd
         have hm100 : m ≤ 100 := by have := Hc.out.st.few.2; rw [Hm.out] at this; exact this
         clear Hc del hel z0 q1 dq1 q0 u1 u2
         go_wp2
         go_loopw [35, 287] (fun a i wr => ∃ k : Nat, k ≤ m ∧ i = .int .i64 k ∧ a = .int .i64 (sumOf (S.take k) name) ∧ R wr) (fun _ i _ => m - (intOf i).toNat)
         case atStart => exact ⟨0, by omega, rfl, by simp [sumOf], hRc⟩
         case round =>
          clear hRc
          obtain ⟨k, hk, rfl, rfl, hR⟩ := hrel
          by_cases hkm : k < m
          ·
           obtain ⟨b, off, rfl, hc⟩ := (HR6.out _ hR).2 k (by rw [Hm.out]; exact hkm)
           have hkS : k < S.length := by rw [Hm.out]; exact hkm
           have hsn := sumOf_take S name k hkS
           have hb1 := Hsb.out k (by omega)
           have hb2 := Hbd.out k hkS
           have hN16 := HN.out.2
           have e0 : S.getD k sti0 = S.getD k noSti := rfl
           rw [e0] at hsn hb2
           generalize S.getD k noSti = e at hc hsn hb2
           have Hsn := Lib.hid hsn
           generalize sumOf (S.take k) name = acc at hb1 Hsn ⊢
           have q1 : IntKind.i64.wrap (e.to - e.fr) = e.to - e.fr := IntWalk.i64_in _ (by omega)
           have q2 : IntKind.i64.wrap (acc + (e.to - e.fr)) = acc + (e.to - e.fr) := IntWalk.i64_in _ (by omega)
           have q3 : IntKind.i64.wrap ((k : Int) + 1) = (k : Int) + 1 := IntWalk.i64_in _ (by omega)
           have k1 : (k : Int) < (m : Int) := by omega
           have k2 : decide ((k : Int) < (m : Int)) = true := decide_eq_true k1
           have c0 : wr.cell? ⟨b, off + k * 6, none⟩ = some (.int .i64 e.side) := hc 0 (by omega)
           have c1 : wr.cell? ⟨b, off + k * 6 + 1, none⟩ = some (.int .i64 e.slot) := hc 1 (by omega)
           have c2 : wr.cell? ⟨b, off + k * 6 + 2, none⟩ = some (.int .i64 e.pos) := hc 2 (by omega)
           have c3 : wr.cell? ⟨b, off + k * 6 + 3, none⟩ = some (.string e.name) := hc 3 (by omega)
           have c4 : wr.cell? ⟨b, off + k * 6 + 4, none⟩ = some (.int .i64 e.fr) := hc 4 (by omega)
           have c5 : wr.cell? ⟨b, off + k * 6 + 5, none⟩ = some (.int .i64 e.to) := hc 5 (by omega)
           have Hk := Lib.hid hkm
           clear hc hsn hb1 hb2 hN16 e0 hk hkm hkS
           have hRn : R (wr.alloc (.cells #[.int .i64 e.side, .int .i64 e.slot, .int .i64 e.pos, .string e.name, .int .i64 e.fr, .int .i64 e.to] 107)) := kR _ _ hR (bt_new wr _)
           have hbn : Bk (wr.alloc (.cells #[.int .i64 e.side, .int .i64 e.slot, .int .i64 e.pos, .string e.name, .int .i64 e.fr, .int .i64 e.to] 107)) wr.heap.size 107 #[.int .i64 e.side, .int .i64 e.slot, .int .i64 e.pos, .string e.name, .int .i64 e.fr, .int .i64 e.to] := Bk.new wr 107 _
           go_upto_region 66 with fail
           generalize (wr.alloc (.cells #[.int .i64 e.side, .int .i64 e.slot, .int .i64 e.pos, .string e.name, .int .i64 e.fr, .int .i64 e.to] 107)) = W7 at hRn hbn ⊢
           generalize wr.heap.size = vb at hbn ⊢
           clear c0 c1 c2 c3 c4 c5
           have b3 : W7.cell? ⟨vb, 3, none⟩ = some (.string e.name) := by rw [hbn.cell]; rfl
           have b4 : W7.cell? ⟨vb, 4, none⟩ = some (.int .i64 e.fr) := by rw [hbn.cell]; rfl
           have b5 : W7.cell? ⟨vb, 5, none⟩ = some (.int .i64 e.to) := by rw [hbn.cell]; rfl
           clear hbn hR
           by_cases hnm : e.name = name
           ·
            have hnt := tl_eq hnm
            have Hnm := Lib.hid hnm; clear hnm
            go_wp2
            go_roundw
            case rel => exact ⟨k + 1, by have := Hk.out; omega, by go_num, by rw [Hsn.out, if_pos Hnm.out], hRn⟩
            case measure => have := Hk.out; simp [intOf]; omega
           ·
            have hnt := tl_ne hnm
            have Hnm := Lib.hid hnm; clear hnm
            go_wp2
            go_roundw
            case rel => exact ⟨k + 1, by have := Hk.out; omega, by go_num, by rw [Hsn.out, if_neg Hnm.out, Int.add_zero], hRn⟩
            case measure => have := Hk.out; simp [intOf]; omega
          ·
           have hkm2 : k = m := by omega
           have hts : S.take k = S := List.take_of_length_le (by rw [Hm.out]; omega)
           have Hts := Lib.hid hts; clear hts
           have k1 : ¬ (k : Int) < (m : Int) := by omega
           have k2 : decide ((k : Int) < (m : Int)) = false := decide_eq_false k1
           clear hk hkm hkm2 hm100
           go_wp2
           go_meet
           exact ⟨by rw [Hts.out], hR⟩
       case rest =>
       obtain ⟨rfl, hR⟩ := hcut
       clear hRc
       go_upto_region 69 with fail
       go_cut [38, 39] from 303 to 310 (fun s38 s39 wr => s38 = .int .i64 (sumOf S name) ∧ s39 = .int .i64 0 ∧ R wr)
       case first =>
        as_aux_lemma =>
         have hbl := (HR6.out _ hR).1.1
         have hcon := Hc.out.h51 name _ _ d7 Hn.out.1 (HR6.out _ hR).1.2
         clear Hc del hel z0 q1 dq1 q0 u1 u2
         go_wp2_with (first
          | (refine wpList_load_row rfl 54 _ rfl g6 rfl 54 tc.toArray (0, 0) _ hbl Tryz.underlying54 rfl Gl.i54 ?_)
          | (go_at_call 51; (with_reducible refine hcon.mono ?_); rintro e w2 ⟨rfl, hb2⟩))
         go_meet
         exact ⟨rfl, rfl, kR _ _ hR hb2⟩
       case rest =>
       obtain ⟨rfl, rfl, hRc⟩ := hcut
       clear hR
       generalize sumOf S name = sm at *
       go_wp2
       go_roundw
       case rel => exact ⟨e + 1, by have := He.out; omega, by go_num, by rw [Hn.out.2], hRc⟩
       case measure => have := He.out; simp [intOf]; omega
      ·
       have hem2 : e = mx := by omega
       have hel : ¬ (e : Int) < (mx : Int) := by omega
       have del : decide ((e : Int) < (mx : Int)) = false := decide_eq_false hel
       have u1 : IntKind.i64.wrap ((sd : Int) + 1) = (sd : Int) + 1 := IntWalk.i64_in _ (by have := Hs.out.1; omega)
       have Hem := Lib.hid hem2
       clear he hem hem2
       go_wp2
       go_roundw
       case rel => exact ⟨sd + 1, totS N0 N1 S sd e, by have := Hs.out.1; omega, by go_num, rfl, (fun h => by omega), (fun h => by rw [Hem.out]; exact Hx.out.2.2.2.2.1.1 (by omega)), (fun h => by rw [Hem.out]; exact Hx.out.2.2.2.2.1.2 (by omega)), hR⟩
       case measure => have := Hs.out.1; simp [intOf]; omega
    ·
     have q1 : ¬ (sd : Int) < 2 := by omega
     have dq1 : decide ((sd : Int) < 2) = false := decide_eq_false q1
     have hv : Hid (v = 18 * (N : Int)) := hv2 (by omega)
     clear hsd hs2 hv0 hv1 hv2
     go_wp2
     go_meet
     exact ⟨by rw [hv.out], hR⟩
 case rest =>
 clear hR
 obtain ⟨rfl, hR⟩ := hcut
 have hB := Gp.below _ (oR.out _ hR).1
 have hN := C.hN
 have u1 : IntKind.i64.wrap (18 * (N : Int)) = 18 * (N : Int) := IntWalk.i64_in _ (by omega)
 clear C Gp Gt oR kR hb hR hN
 go_wp2
 go_ret
 exact ⟨ret_bool (by first | rfl | simp), hB⟩
end Go.Proofs.YtmagppkclnebjaaGreatDoor
