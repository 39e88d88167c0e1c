/- dugoutlaw03.LineupHalves: the walk. -/
import Derived.Test.YtmagppkclnebjaaGreatDoorJ1
import Derived.Deep.Cut
import Derived.Deep.CutRange
import Derived.BigQuiet
import Derived.IntWalk
set_option linter.unusedVariables false
set_option linter.unusedSimpArgs false
set_option linter.unusedSimpArgs false
set_option linter.unusedVariables false
namespace Go.Proofs.YtmagppkclnebjaaGreatDoor
open Go.RowKit
open L

set_option maxHeartbeats 20000000 in
set_option maxRecDepth 100000 in
theorem hlv_main (P : World → Prop) (w : World) (tc tu tv : List Value) (A : Option Addr) (n c : Nat) (l lu lv : List Chg) (mu cut N b0 b1 : Nat) (ta ts : Nat → List Value) (wh : Nat → Str)
 (Gp : GP w tc A n c 2 P) (hx : Hid (∀ X, P X → X.cell? ⟨w.heap.size + 1, 0, none⟩ = some (.int .u8 b0) ∧ X.cell? ⟨w.heap.size + 1, 1, none⟩ = some (.int .u8 b1))) (C : HlvC P tc tu tv A n c l lu lv mu cut ta ts wh) (hb : Hid (b0 < 256 ∧ b1 < 256 ∧ N = 1 + b0 % 16 ∧ cut = b1 % 16)) (G : Array Value) (hP : P ((w.alloc (.cells G 49)).alloc (.cells #[.int .u8 b0, .int .u8 b1] 117))) :
 Calls Tryz.prog 12 #[.agg G, .agg #[.int .u8 b0, .int .u8 b1]] w fun x w' => x = .returned (.bool true) ∧ Below w.heap.size w w' := by
 go_enter Tryz.func12, Tryz.ntmps12
 go_upto_region 1 with fail
 generalize ((w.alloc (.cells G 49)).alloc (.cells #[.int .u8 b0, .int .u8 b1] 117)) = W0 at hP ⊢
 go_cut [5, 6] from 29 (fun s5 s6 wr => s5 = .int .i64 (N : Int) ∧ s6 = .int .i64 (cut : Int) ∧ P wr)
 case first =>
  as_aux_lemma =>
   have HS : Hid (∀ X, P X → (X.cell? ⟨w.heap.size + 1, 0, none⟩ = some (.int .u8 b0) ∧ X.cell? ⟨w.heap.size + 1, 1, none⟩ = some (.int .u8 b1)) ∧ P X) := fun X h => ⟨hx.out _ h, h⟩
   have hS0 := HS.out _ (Gp.kp _ _ hP (bt_drew (Below.refl _ W0)))
   clear C Gp
   refine wp_region_held_drew (S := (fun X => (X.cell? ⟨w.heap.size + 1, 0, none⟩ = some (.int .u8 b0) ∧ X.cell? ⟨w.heap.size + 1, 1, none⟩ = some (.int .u8 b1)) ∧ P X)) (by kernel_rfl) (hS0) (fun hHeld => ?_)
   refine tkE (i := 0) rfl ?_
   refine tkE (i := 1) rfl ?_
   refine tkE (i := 2) rfl ?_
   refine tkE (i := 3) rfl ?_
   refine tkE (i := 4) rfl ?_
   refine tkE (i := 5) rfl ?_
   refine tkE (i := 6) rfl ?_
   refine tkE (i := 7) rfl ?_
   refine tkE (i := 8) rfl ?_
   refine tkE (i := 9) rfl ?_
   refine tkE (i := 10) rfl ?_
   refine wpAnyH_done (by kernel_rfl) ?_ _
   go_wp2_with fail
   go_meet
   obtain ⟨q0, q1, q2, q3⟩ := hb.out
   have r0 : ((b0 : Int).tmod 16) = ((b0 % 16 : Nat) : Int) := by rw [Int.tmod_eq_emod_of_nonneg (by omega)]; omega
   have r1 : ((b1 : Int).tmod 16) = ((b1 % 16 : Nat) : Int) := by rw [Int.tmod_eq_emod_of_nonneg (by omega)]; omega
   have w0 : IntKind.i64.wrap (b0 : Int) = (b0 : Int) := IntWalk.i64_in _ (by omega)
   have w1 : IntKind.i64.wrap (b1 : Int) = (b1 : Int) := IntWalk.i64_in _ (by omega)
   have w2 : IntKind.i64.wrap (1 + ((b0 % 16 : Nat) : Int)) = 1 + ((b0 % 16 : Nat) : Int) := IntWalk.i64_in _ (by omega)
   exact ⟨by rw [w0, r0, w2, q2]; congr 1, by rw [w1, r1, q3], hHeld.2⟩
 case rest =>
  obtain ⟨rfl, rfl, hPc⟩ := hcut
  clear hP
  generalize wc = W1 at hPc ⊢
  go_upto_region 2 with fail
  go_cut [44] from 29 (fun s44 wr => s44 = .bool false ∧ P wr)
  case first =>
   as_aux_lemma =>
    have hgr := Gp.rg
    have hi49 := Gp.i49
    have h34 := C.h34
    generalize (tc ++ [Value.slice A n c]) = gc at hgr hi49 h34
    go_wp2_with (first
     | (go_at_call 13; refine (C.h13 _ hPc).mono ?_; rintro e w1 ⟨rfl, hb1⟩; have hP1 := Gp.kp _ _ hPc hb1)
     | (refine wpList_load_cells_g 49 _ rfl w.heap.size 0 rfl gc (fun j hj => by rw [List.getElem?_eq_getElem hj]; exact hgr _ hP1 j _ (List.getElem?_eq_getElem hj)) _ Tryz.underlying49 rfl hi49 rfl ?_)
     | (go_at_call 34; refine (h34 _ hP1).mono ?_; rintro e w2 ⟨rfl, hb2⟩; have hP2 := Gp.kp _ _ hP1 hb2))
    go_meet
    exact ⟨by first | rfl | simp, hP2⟩
  case rest =>
  obtain ⟨rfl, hP⟩ := hcut
  clear hPc
  generalize wc = W0 at hP ⊢
  go_step
  go_upto_region 4 with fail
  have Gt := C.gc
  go_cut [7, 8] from 29 (fun s7 s8 wr => P wr ∧ ∃ g B d, s7 = .pointer (some ⟨g, 0, none⟩) ∧ s8 = .slice B n d ∧ n ≤ d ∧ Bk wr g 54 tc.toArray ∧ RdC wr B l)
  case first =>
   as_aux_lemma =>
    have hS0 : W0.drew.cell? ⟨w.heap.size, 36, none⟩ = some (.slice A n c) ∧ P W0.drew := ⟨Gp.c36 _ (Gp.kp _ _ hP (bt_drew (Below.refl _ W0))), Gp.kp _ _ hP (bt_drew (Below.refl _ W0))⟩
    refine wp_region_held_drew (S := (fun X => X.cell? ⟨w.heap.size, 36, none⟩ = some (.slice A n c) ∧ P X)) (by kernel_rfl) (hS0) (fun hHeld => ?_)
    refine tkE (i := 0) rfl ?_
    refine ldE (i := 1) rfl rfl rfl (tc) (fun W h => Gp.r W h.2) Tryz.underlying46 rfl (Gt.l46) ?_
    refine tkE (i := 3) rfl ?_
    refine tkE (i := 4) rfl ?_
    refine rdE2 (i := 2) (j := 6) rfl rfl (fun K hK => ?_) (fun K hK => ?_)
    ·
     go_simp
     go_at_call 23
     refine (C.h23 _).mono ?_
     rintro e w2 ⟨rfl, hb2⟩
     go_wp2_with fail
     have hP2 := Gp.kp _ _ hHeld.2 hb2
     refine onE hK ⟨Gp.c36 _ hP2, hP2⟩ (fun hHeld => ?_)
     clear hK K hb2 hS0
     refine rdE2 (i := 5) (j := 6) rfl rfl (fun K hK => ?_) (fun K hK => ?_)
     ·
      go_simp
      go_at_call 24
      refine (C.h24 _ hP2).mono ?_
      rintro e w3 ⟨⟨B, d, rfl, hcap, hr3, hge3⟩, hb3⟩
      go_wp2_with fail
      have hP3 := Gp.kp _ _ hP2 hb3
      refine onE hK ⟨Gp.c36 _ hP3, hP3⟩ (fun hHeld => ?_)
      clear hK K hb3 hP2
      have hPX := Gp.kp _ _ hP3 (bt_new w3 (.cells #[.string { data := #[] }, .string { data := #[] }, .string { data := #[] }, .string { data := #[] }, .string { data := #[] }, .string { data := #[] }, .string { data := #[] }, .string { data := #[] }, .string { data := #[] }, .int .i64 0, .int .i64 0, .int .i64 0, .int .i64 0, .int .i64 0, .int .i64 0, .int .i64 0, .int .i64 0, .int .i64 0, .string { data := #[] }, .string { data := #[] }, .string { data := #[] }, .string { data := #[] }, .string { data := #[] }, .string { data := #[] }, .string { data := #[] }, .string { data := #[] }, .string { data := #[] }, .int .i64 0, .int .i64 0, .int .i64 0, .int .i64 0, .int .i64 0, .int .i64 0, .int .i64 0, .int .i64 0, .int .i64 0] 54))
      refine rdE (i := 6) rfl (fun K hK => ?_)
      go_simp
      refine onE hK (⟨Gp.c36 _ hPX, hPX⟩) (fun hHeld => ?_)
      clear hK K
      have hlo := Gp.lo _ hP3
      have hb := Bk.new w3 54 #[.string { data := #[] }, .string { data := #[] }, .string { data := #[] }, .string { data := #[] }, .string { data := #[] }, .string { data := #[] }, .string { data := #[] }, .string { data := #[] }, .string { data := #[] }, .int .i64 0, .int .i64 0, .int .i64 0, .int .i64 0, .int .i64 0, .int .i64 0, .int .i64 0, .int .i64 0, .int .i64 0, .string { data := #[] }, .string { data := #[] }, .string { data := #[] }, .string { data := #[] }, .string { data := #[] }, .string { data := #[] }, .string { data := #[] }, .string { data := #[] }, .string { data := #[] }, .int .i64 0, .int .i64 0, .int .i64 0, .int .i64 0, .int .i64 0, .int .i64 0, .int .i64 0, .int .i64 0, .int .i64 0]
      have hr := hr3.below (bt_new w3 (.cells #[.string { data := #[] }, .string { data := #[] }, .string { data := #[] }, .string { data := #[] }, .string { data := #[] }, .string { data := #[] }, .string { data := #[] }, .string { data := #[] }, .string { data := #[] }, .int .i64 0, .int .i64 0, .int .i64 0, .int .i64 0, .int .i64 0, .int .i64 0, .int .i64 0, .int .i64 0, .int .i64 0, .string { data := #[] }, .string { data := #[] }, .string { data := #[] }, .string { data := #[] }, .string { data := #[] }, .string { data := #[] }, .string { data := #[] }, .string { data := #[] }, .string { data := #[] }, .int .i64 0, .int .i64 0, .int .i64 0, .int .i64 0, .int .i64 0, .int .i64 0, .int .i64 0, .int .i64 0, .int .i64 0] 54))
      have hne : ∀ a, B = some a → a.block ≠ w3.heap.size := fun a e => by have := (hge3 a e).2; omega
      clear hr3 hge3 hP3 hHeld
      generalize (w3.alloc (.cells #[.string { data := #[] }, .string { data := #[] }, .string { data := #[] }, .string { data := #[] }, .string { data := #[] }, .string { data := #[] }, .string { data := #[] }, .string { data := #[] }, .string { data := #[] }, .int .i64 0, .int .i64 0, .int .i64 0, .int .i64 0, .int .i64 0, .int .i64 0, .int .i64 0, .int .i64 0, .int .i64 0, .string { data := #[] }, .string { data := #[] }, .string { data := #[] }, .string { data := #[] }, .string { data := #[] }, .string { data := #[] }, .string { data := #[] }, .string { data := #[] }, .string { data := #[] }, .int .i64 0, .int .i64 0, .int .i64 0, .int .i64 0, .int .i64 0, .int .i64 0, .int .i64 0, .int .i64 0, .int .i64 0] 54)) = X at hPX hb hr ⊢
      generalize w3.heap.size = g at hb hlo hne ⊢
      refine rdE (i := 7) rfl (fun K hK => ?_)
      refine step_store rfl 54 _ _ rfl g 0 tc.toArray rfl rfl (hb.there _ (by rw [Gt.s36]; decide)) Gt.i54 Gt.one ?_
      have hPS := Gp.sets _ g tc hPX hlo
      refine onE hK ⟨Gp.c36 _ hPS, hPS⟩ (fun hHeld => ?_)
      clear hK K
      refine rdE (i := 8) rfl (fun K hK => ?_)
      go_simp
      refine onE hK (hHeld) (fun hHeld => ?_)
      clear hK K
      refine wpAnyH_done (by kernel_rfl) ?_ _
      go_wp2_with fail
      go_meet
      exact ⟨hPS, g, B, d, rfl, rfl, hcap, hb.fill tc.toArray (by rw [Gt.s36]; rfl), rdc_sets hr hne tc⟩
     ·
      go_simp
      have hPn := Gp.kp _ _ hP2 (bt_new w2 (.cells #[.string { data := #[] }, .string { data := #[] }, .string { data := #[] }, .string { data := #[] }, .string { data := #[] }, .string { data := #[] }, .string { data := #[] }, .string { data := #[] }, .string { data := #[] }, .int .i64 0, .int .i64 0, .int .i64 0, .int .i64 0, .int .i64 0, .int .i64 0, .int .i64 0, .int .i64 0, .int .i64 0, .string { data := #[] }, .string { data := #[] }, .string { data := #[] }, .string { data := #[] }, .string { data := #[] }, .string { data := #[] }, .string { data := #[] }, .string { data := #[] }, .string { data := #[] }, .int .i64 0, .int .i64 0, .int .i64 0, .int .i64 0, .int .i64 0, .int .i64 0, .int .i64 0, .int .i64 0, .int .i64 0] 54))
      refine onE hK ⟨Gp.c36 _ hPn, hPn⟩ (fun hHeld => ?_)
      clear hK K
      have hlo := Gp.lo _ hP2
      have hb0 := Bk.new w2 54 #[.string { data := #[] }, .string { data := #[] }, .string { data := #[] }, .string { data := #[] }, .string { data := #[] }, .string { data := #[] }, .string { data := #[] }, .string { data := #[] }, .string { data := #[] }, .int .i64 0, .int .i64 0, .int .i64 0, .int .i64 0, .int .i64 0, .int .i64 0, .int .i64 0, .int .i64 0, .int .i64 0, .string { data := #[] }, .string { data := #[] }, .string { data := #[] }, .string { data := #[] }, .string { data := #[] }, .string { data := #[] }, .string { data := #[] }, .string { data := #[] }, .string { data := #[] }, .int .i64 0, .int .i64 0, .int .i64 0, .int .i64 0, .int .i64 0, .int .i64 0, .int .i64 0, .int .i64 0, .int .i64 0]
      clear hP2 hHeld
      generalize (w2.alloc (.cells #[.string { data := #[] }, .string { data := #[] }, .string { data := #[] }, .string { data := #[] }, .string { data := #[] }, .string { data := #[] }, .string { data := #[] }, .string { data := #[] }, .string { data := #[] }, .int .i64 0, .int .i64 0, .int .i64 0, .int .i64 0, .int .i64 0, .int .i64 0, .int .i64 0, .int .i64 0, .int .i64 0, .string { data := #[] }, .string { data := #[] }, .string { data := #[] }, .string { data := #[] }, .string { data := #[] }, .string { data := #[] }, .string { data := #[] }, .string { data := #[] }, .string { data := #[] }, .int .i64 0, .int .i64 0, .int .i64 0, .int .i64 0, .int .i64 0, .int .i64 0, .int .i64 0, .int .i64 0, .int .i64 0] 54)) = Wn at hPn hb0 ⊢
      generalize w2.heap.size = g at hb0 hlo ⊢
      refine rdE (i := 5) rfl (fun K hK => ?_)
      go_simp
      go_at_call 24
      refine (C.h24 _ hPn).mono ?_
      rintro e X ⟨⟨B, d, rfl, hcap, hr, hge3⟩, hb3⟩
      go_wp2_with fail
      have hPX := Gp.kp _ _ hPn hb3
      refine onE hK ⟨Gp.c36 _ hPX, hPX⟩ (fun hHeld => ?_)
      clear hK K hHeld
      have hb := hb0.below hb3 hb0.lt
      have hne : ∀ a, B = some a → a.block ≠ g := fun a e => by have := (hge3 a e).1; have := hb0.lt; omega
      clear hge3 hPn hb0 hb3
      refine rdE (i := 7) rfl (fun K hK => ?_)
      refine step_store rfl 54 _ _ rfl g 0 tc.toArray rfl rfl (hb.there _ (by rw [Gt.s36]; decide)) Gt.i54 Gt.one ?_
      have hPS := Gp.sets _ g tc hPX hlo
      refine onE hK ⟨Gp.c36 _ hPS, hPS⟩ (fun hHeld => ?_)
      clear hK K
      refine rdE (i := 8) rfl (fun K hK => ?_)
      go_simp
      refine onE hK (hHeld) (fun hHeld => ?_)
      clear hK K
      refine wpAnyH_done (by kernel_rfl) ?_ _
      go_wp2_with fail
      go_meet
      exact ⟨hPS, g, B, d, rfl, rfl, hcap, hb.fill tc.toArray (by rw [Gt.s36]; rfl), rdc_sets hr hne tc⟩
    ·
     go_simp
     have hPn : P (W0.alloc (.cells #[.string { data := #[] }, .string { data := #[] }, .string { data := #[] }, .string { data := #[] }, .string { data := #[] }, .string { data := #[] }, .string { data := #[] }, .string { data := #[] }, .string { data := #[] }, .int .i64 0, .int .i64 0, .int .i64 0, .int .i64 0, .int .i64 0, .int .i64 0, .int .i64 0, .int .i64 0, .int .i64 0, .string { data := #[] }, .string { data := #[] }, .string { data := #[] }, .string { data := #[] }, .string { data := #[] }, .string { data := #[] }, .string { data := #[] }, .string { data := #[] }, .string { data := #[] }, .int .i64 0, .int .i64 0, .int .i64 0, .int .i64 0, .int .i64 0, .int .i64 0, .int .i64 0, .int .i64 0, .int .i64 0] 54)).drew := Gp.kp _ _ hP (bt_drew (bt_new W0 _))
     refine onE hK ⟨Gp.c36 _ hPn, hPn⟩ (fun hHeld => ?_)
     clear hK K hS0
     have hb0 := (Bk.new W0 54 #[.string { data := #[] }, .string { data := #[] }, .string { data := #[] }, .string { data := #[] }, .string { data := #[] }, .string { data := #[] }, .string { data := #[] }, .string { data := #[] }, .string { data := #[] }, .int .i64 0, .int .i64 0, .int .i64 0, .int .i64 0, .int .i64 0, .int .i64 0, .int .i64 0, .int .i64 0, .int .i64 0, .string { data := #[] }, .string { data := #[] }, .string { data := #[] }, .string { data := #[] }, .string { data := #[] }, .string { data := #[] }, .string { data := #[] }, .string { data := #[] }, .string { data := #[] }, .int .i64 0, .int .i64 0, .int .i64 0, .int .i64 0, .int .i64 0, .int .i64 0, .int .i64 0, .int .i64 0, .int .i64 0]).drew
     have hlo := Gp.lo _ hP
     clear hHeld hP
     generalize (W0.alloc (.cells #[.string { data := #[] }, .string { data := #[] }, .string { data := #[] }, .string { data := #[] }, .string { data := #[] }, .string { data := #[] }, .string { data := #[] }, .string { data := #[] }, .string { data := #[] }, .int .i64 0, .int .i64 0, .int .i64 0, .int .i64 0, .int .i64 0, .int .i64 0, .int .i64 0, .int .i64 0, .int .i64 0, .string { data := #[] }, .string { data := #[] }, .string { data := #[] }, .string { data := #[] }, .string { data := #[] }, .string { data := #[] }, .string { data := #[] }, .string { data := #[] }, .string { data := #[] }, .int .i64 0, .int .i64 0, .int .i64 0, .int .i64 0, .int .i64 0, .int .i64 0, .int .i64 0, .int .i64 0, .int .i64 0] 54)).drew = Wn at hPn hb0 ⊢
     generalize W0.heap.size = g at hb0 hlo ⊢
     refine rdE (i := 2) rfl (fun K hK => ?_)
     go_simp
     go_at_call 23
     refine (C.h23 _).mono ?_
     rintro e w2 ⟨rfl, hb2⟩
     go_wp2_with fail
     have hP2 := Gp.kp _ _ hPn hb2
     have hbk2 := hb0.below hb2 hb0.lt
     refine onE hK ⟨Gp.c36 _ hP2, hP2⟩ (fun hHeld => ?_)
     clear hK K hHeld hPn hb0 hb2
     refine rdE (i := 5) rfl (fun K hK => ?_)
     go_simp
     go_at_call 24
     refine (C.h24 _ hP2).mono ?_
     rintro e X ⟨⟨B, d, rfl, hcap, hr, hge3⟩, hb3⟩
     go_wp2_with fail
     have hPX := Gp.kp _ _ hP2 hb3
     refine onE hK ⟨Gp.c36 _ hPX, hPX⟩ (fun hHeld => ?_)
     clear hK K hHeld
     have hb := hbk2.below hb3 hbk2.lt
     have hne : ∀ a, B = some a → a.block ≠ g := fun a e => by have := (hge3 a e).1; have := hbk2.lt; omega
     clear hge3 hP2 hbk2 hb3
     refine rdE (i := 7) rfl (fun K hK => ?_)
     refine step_store rfl 54 _ _ rfl g 0 tc.toArray rfl rfl (hb.there _ (by rw [Gt.s36]; decide)) Gt.i54 Gt.one ?_
     have hPS := Gp.sets _ g tc hPX hlo
     refine onE hK ⟨Gp.c36 _ hPS, hPS⟩ (fun hHeld => ?_)
     clear hK K
     refine rdE (i := 8) rfl (fun K hK => ?_)
     go_simp
     refine onE hK (hHeld) (fun hHeld => ?_)
     clear hK K
     refine wpAnyH_done (by kernel_rfl) ?_ _
     go_wp2_with fail
     go_meet
     exact ⟨hPS, g, B, d, rfl, rfl, hcap, hb.fill tc.toArray (by rw [Gt.s36]; rfl), rdc_sets hr hne tc⟩
  case rest =>
  obtain ⟨hPc, g7, B7, d7, rfl, rfl, hcap, hb7, hr7⟩ := hcut
  clear hP
  generalize wc = W1 at hPc hb7 hr7 ⊢
  have Hcap := Lib.hid hcap
  clear hcap
  obtain ⟨P1, kP1, hP1, oP1, sP1⟩ : ∃ P1 : World → Prop, Keep P1 ∧ P1 W1 ∧ Hid (∀ X, P1 X → P X ∧ Bk X g7 54 tc.toArray ∧ RdC X B7 l ∧ W1.heap.size ≤ X.heap.size) ∧ Hid (∀ X g cs, P1 X → W1.heap.size ≤ g → P1 (X.setCells g 0 cs)) :=
   ⟨fun X => P X ∧ Below W1.heap.size W1 X, keep_and Gp.kp (keep_below W1), ⟨hPc, Below.refl _ _⟩, fun X h => ⟨h.1, hb7.below h.2 hb7.lt, hr7.below h.2, h.2.size⟩, fun X g cs h hg => ⟨Gp.sets X g cs h.1 (Nat.le_trans (Gp.lo _ hPc) hg), below_sets hg h.2 _ _⟩⟩
  clear hPc hb7 hr7
  go_upto_region 5 with fail
  go_cut [9, 10, 11] from 29 (fun sp sl se wr => P1 wr ∧ ∃ g B d, sp = .pointer (some ⟨g, 0, none⟩) ∧ sl = .slice B mu d ∧ se = .int .i64 0 ∧ Bk wr g 54 tu.toArray ∧ RdC wr B lu)
  case first =>
   as_aux_lemma =>
    have hbl := (oP1.out _ hP1).2.1
    have hrl := (oP1.out _ hP1).2.2.1
    have hcon := C.h58 _ _ d7 Hcap.out hrl
    have Gl := C.gc; have Gs := C.gu
    have hcp := Hcap.out
    have hlo := (oP1.out _ hP1).2.2.2
    clear C Gp Gt
    go_wp2_with (first
     | (refine wpList_load_row rfl 54 _ rfl g7 rfl 54 tc.toArray (0, 0) _ hbl Tryz.underlying54 rfl Gl.i54 ?_)
     | (go_at_call 58; (with_reducible refine hcon.mono ?_); rintro e w2 ⟨⟨B, d, rfl, hr2⟩, hb2⟩; have hP2 := kP1 _ _ hP1 hb2; have hb := Bk.new w2 54 z36)
     | (refine wpList_store_mid rfl 54 (.tmp 9) (.tmp 57) rfl w2.heap.size 0 tu.toArray rfl rfl (hb.there _ (by rw [Gs.s36]; decide)) Gs.i54 Gs.one ?_))
    go_meet
    exact ⟨sP1.out _ _ _ (kP1 _ _ hP2 (bt_new w2 _)) (oP1.out _ hP2).2.2.2, w2.heap.size, B, d, rfl, rfl, rfl, new_teams w2 tu Gs.s36, new_rdc w2 tu hr2⟩
  case rest =>
  obtain ⟨hPc, g9, B9, d9, rfl, rfl, rfl, hb9, hr9⟩ := hcut
  clear hP1
  generalize wc = W2 at hPc hb9 hr9 ⊢
  obtain ⟨P2, kP2, hP2, oP2, sP2⟩ : ∃ P2 : World → Prop, Keep P2 ∧ P2 W2 ∧ Hid (∀ X, P2 X → P1 X ∧ Bk X g9 54 tu.toArray ∧ RdC X B9 lu ∧ W2.heap.size ≤ X.heap.size) ∧ Hid (∀ X g cs, P2 X → W2.heap.size ≤ g → P2 (X.setCells g 0 cs)) :=
   ⟨fun X => P1 X ∧ Below W2.heap.size W2 X, keep_and kP1 (keep_below W2), ⟨hPc, Below.refl _ _⟩, fun X h => ⟨h.1, hb9.below h.2 hb9.lt, hr9.below h.2, h.2.size⟩, fun X g cs h hg => ⟨sP1.out X g cs h.1 (Nat.le_trans (oP1.out _ hPc).2.2.2 hg), below_sets hg h.2 _ _⟩⟩
  clear hPc hb9 hr9

  go_upto_region 6 with fail
  go_cut [12, 13, 14] from 29 (fun sp sl se wr => P2 wr ∧ ∃ g B d, sp = .pointer (some ⟨g, 0, none⟩) ∧ sl = .slice B n d ∧ se = .int .i64 0 ∧ Bk wr g 54 tv.toArray ∧ RdC wr B lv)
  case first =>
   as_aux_lemma =>
    have hbl := (oP1.out _ (oP2.out _ hP2).1).2.1
    have hrl := (oP1.out _ (oP2.out _ hP2).1).2.2.1
    have hcon := C.h57 _ _ d7 hrl
    have Gl := C.gc; have Gs := C.gv
    have hcp := Hcap.out
    have hlo := (oP2.out _ hP2).2.2.2
    clear C Gp Gt
    go_wp2_with (first
     | (refine wpList_load_row rfl 54 _ rfl g7 rfl 54 tc.toArray (0, 0) _ hbl Tryz.underlying54 rfl Gl.i54 ?_)
     | (go_at_call 57; (with_reducible refine hcon.mono ?_); rintro e w2 ⟨⟨B, d, rfl, hr2⟩, hb2⟩; have hP2 := kP2 _ _ hP2 hb2; have hb := Bk.new w2 54 z36)
     | (refine wpList_store_mid rfl 54 (.tmp 12) (.tmp 64) rfl w2.heap.size 0 tv.toArray rfl rfl (hb.there _ (by rw [Gs.s36]; decide)) Gs.i54 Gs.one ?_))
    go_meet
    exact ⟨sP2.out _ _ _ (kP2 _ _ hP2 (bt_new w2 _)) (oP2.out _ hP2).2.2.2, w2.heap.size, B, d, rfl, rfl, rfl, new_teams w2 tv Gs.s36, new_rdc w2 tv hr2⟩
  case rest =>
  obtain ⟨hPc, g12, B12, d12, rfl, rfl, rfl, hb12, hr12⟩ := hcut
  clear hP2
  generalize wc = W3 at hPc hb12 hr12 ⊢
  obtain ⟨P3, kP3, hP3, oP3, sP3⟩ : ∃ P3 : World → Prop, Keep P3 ∧ P3 W3 ∧ Hid (∀ X, P3 X → P2 X ∧ Bk X g12 54 tv.toArray ∧ RdC X B12 lv ∧ W3.heap.size ≤ X.heap.size) ∧ Hid (∀ X g cs, P3 X → W3.heap.size ≤ g → P3 (X.setCells g 0 cs)) :=
   ⟨fun X => P2 X ∧ Below W3.heap.size W3 X, keep_and kP2 (keep_below W3), ⟨hPc, Below.refl _ _⟩, fun X h => ⟨h.1, hb12.below h.2 hb12.lt, hr12.below h.2, h.2.size⟩, fun X g cs h hg => ⟨sP2.out X g cs h.1 (Nat.le_trans (oP2.out _ hPc).2.2.2 hg), below_sets hg h.2 _ _⟩⟩
  clear hPc hb12 hr12

  go_upto_region 7 with fail
  go_cut [15, 16, 17] from 29 (fun sp sl se wr => P3 wr ∧ ∃ g B d, sp = .pointer (some ⟨g, 0, none⟩) ∧ sl = .slice B n d ∧ se = .int .i64 0 ∧ Bk wr g 54 tc.toArray ∧ RdC wr B l)
  case first =>
   as_aux_lemma =>
    have hbl := (oP3.out _ hP3).2.1
    have hrl := (oP3.out _ hP3).2.2.1
    have hcon := C.h57v _ _ d12 hrl
    have Gl := C.gv; have Gs := C.gc
    have hcp := Hcap.out
    have hlo := (oP3.out _ hP3).2.2.2
    clear C Gp Gt
    go_wp2_with (first
     | (refine wpList_load_row rfl 54 _ rfl g12 rfl 54 tv.toArray (0, 0) _ hbl Tryz.underlying54 rfl Gl.i54 ?_)
     | (go_at_call 57; (with_reducible refine hcon.mono ?_); rintro e w2 ⟨⟨B, d, rfl, hr2⟩, hb2⟩; have hP2 := kP3 _ _ hP3 hb2; have hb := Bk.new w2 54 z36)
     | (refine wpList_store_mid rfl 54 (.tmp 15) (.tmp 71) rfl w2.heap.size 0 tc.toArray rfl rfl (hb.there _ (by rw [Gs.s36]; decide)) Gs.i54 Gs.one ?_))
    go_meet
    exact ⟨sP3.out _ _ _ (kP3 _ _ hP2 (bt_new w2 _)) (oP3.out _ hP2).2.2.2, w2.heap.size, B, d, rfl, rfl, rfl, new_teams w2 tc Gs.s36, new_rdc w2 tc hr2⟩
  case rest =>
  obtain ⟨hPc, g15, B15, d15, rfl, rfl, rfl, hb15, hr15⟩ := hcut
  clear hP3
  generalize wc = W4 at hPc hb15 hr15 ⊢
  obtain ⟨P4, kP4, hP4, oP4, sP4⟩ : ∃ P4 : World → Prop, Keep P4 ∧ P4 W4 ∧ Hid (∀ X, P4 X → P3 X ∧ Bk X g15 54 tc.toArray ∧ RdC X B15 l ∧ W4.heap.size ≤ X.heap.size) ∧ Hid (∀ X g cs, P4 X → W4.heap.size ≤ g → P4 (X.setCells g 0 cs)) :=
   ⟨fun X => P3 X ∧ Below W4.heap.size W4 X, keep_and kP3 (keep_below W4), ⟨hPc, Below.refl _ _⟩, fun X h => ⟨h.1, hb15.below h.2 hb15.lt, hr15.below h.2, h.2.size⟩, fun X g cs h hg => ⟨sP3.out X g cs h.1 (Nat.le_trans (oP3.out _ hPc).2.2.2 hg), below_sets hg h.2 _ _⟩⟩
  clear hPc hb15 hr15

  obtain ⟨R, kR, hR, oR, sR⟩ : ∃ R : World → Prop, Keep R ∧ R W4 ∧ Hid (∀ X, R X → P X ∧ (Bk X g7 54 tc.toArray ∧ RdC X B7 l) ∧ (Bk X g9 54 tu.toArray ∧ RdC X B9 lu) ∧ (Bk X g12 54 tv.toArray ∧ RdC X B12 lv) ∧ (Bk X g15 54 tc.toArray ∧ RdC X B15 l) ∧ W4.heap.size ≤ X.heap.size) ∧ Hid (∀ X g cs, R X → W4.heap.size ≤ g → R (X.setCells g 0 cs)) :=
   ⟨P4, kP4, hP4, fun X h => by
    have h3 := oP4.out _ h
    have h2 := oP3.out _ h3.1
    have h1 := oP2.out _ h2.1
    have h0 := oP1.out _ h1.1
    exact ⟨h0.1, ⟨h0.2.1, h0.2.2.1⟩, ⟨h1.2.1, h1.2.2.1⟩, ⟨h2.2.1, h2.2.2.1⟩, ⟨h3.2.1, h3.2.2.1⟩, h3.2.2.2⟩, sP4⟩
  clear kP1 oP1 sP1 kP2 oP2 sP2 kP3 oP3 sP3 kP4 hP4 oP4 sP4
  generalize W4.heap.size = lim at oR sR
  go_upto_region 8 with fail
  go_cut [104] from 29 (fun s104 wr => s104 = .bool false ∧ R wr)
  case first =>
   as_aux_lemma =>
    have H61u := Lib.hid C.h61u; have H61v := Lib.hid C.h61v; have H31 := Lib.hid C.h31; have H30 := Lib.hid C.h30; have E54 := Lib.hid C.neq54
    have lc := Lib.hid C.gc.l54; have lu5 := Lib.hid C.gu.l54; have lv5 := Lib.hid C.gv.l54
    have HS : Hid (∀ X, R X → X.cell? ⟨w.heap.size, 36, none⟩ = some (.slice A n c) ∧ R X) := fun X h => ⟨Gp.c36 _ (oR.out _ h).1, h⟩
    have HG : Hid (∀ X, R X → X.rangeAt g9 0 tu ∧ X.rangeAt g12 0 tv ∧ X.rangeAt g15 0 tc ∧ X.rangeAt g7 0 tc) := fun X h => by
     have q := oR.out _ h
     exact ⟨bkRangeT q.2.2.1.1, bkRangeT q.2.2.2.1.1, bkRangeT q.2.2.2.2.1.1, bkRangeT q.2.1.1⟩
    have HR : Hid (∀ X, R X → P X ∧ RdC X B9 lu ∧ RdC X B12 lv ∧ RdC X B15 l) := fun X h => by
     have q := oR.out _ h
     exact ⟨q.1, q.2.2.1.2, q.2.2.2.1.2, q.2.2.2.2.1.2⟩
    have hS0 := HS.out _ (kR _ _ hR (bt_drew (Below.refl _ W4)))
    have wz : IntKind.i64.wrap 0 = 0 := by decide
    clear C Gp Gt oR sR hx hb
    refine wp_region_held_drew (S := (fun X => X.cell? ⟨w.heap.size, 36, none⟩ = some (.slice A n c) ∧ R X)) (by kernel_rfl) (hS0) (fun hHeld => ?_)
    refine tkE (i := 0) rfl ?_
    refine tkE (i := 1) rfl ?_
    refine tkE (i := 2) rfl ?_
    refine tkE (i := 3) rfl ?_
    refine tkE (i := 4) rfl ?_
    refine tkE (i := 5) rfl ?_
    refine tkE (i := 6) rfl ?_
    refine ldE (i := 7) rfl rfl rfl (tu) (fun W h => (HG.out W h.2).1) Tryz.underlying54 rfl (lu5.out) ?_
    refine tkE (i := 8) rfl ?_
    refine rdE (i := 9) rfl (fun K hK => ?_)
    go_simp
    (go_at_call 61; with_reducible refine (H61u.out _ _ _ (HR.out _ hHeld.2).2.1).mono ?_; rintro e w5 ⟨rfl, hb5⟩)
    go_wp2_with fail
    refine onE hK (HS.out _ (kR _ _ hHeld.2 hb5)) (fun hHeld => ?_)
    clear hK K
    refine tkE (i := 10) rfl ?_
    refine tkE (i := 11) rfl ?_
    refine tkE (i := 12) rfl ?_
    refine ldE (i := 13) rfl rfl rfl (tv) (fun W h => (HG.out W h.2).2.1) Tryz.underlying54 rfl (lv5.out) ?_
    refine tkE (i := 14) rfl ?_
    refine rdE (i := 15) rfl (fun K hK => ?_)
    go_simp
    (go_at_call 61; with_reducible refine (H61v.out _ _ _ (HR.out _ hHeld.2).2.2.1).mono ?_; rintro e w6 ⟨rfl, hb6⟩)
    go_wp2_with fail
    refine onE hK (HS.out _ (kR _ _ hHeld.2 hb6)) (fun hHeld => ?_)
    clear hK K
    refine tkE (i := 16) rfl ?_
    refine tkE (i := 17) rfl ?_
    refine tkE (i := 18) rfl ?_
    refine ldE (i := 19) rfl rfl rfl (tc) (fun W h => (HG.out W h.2).2.2.1) Tryz.underlying54 rfl (lc.out) ?_
    refine ldE (i := 20) rfl rfl rfl (tc) (fun W h => (HG.out W h.2).2.2.2) Tryz.underlying54 rfl (lc.out) ?_
    have e1 := E54.out
    refine tkE (i := 21) rfl ?_
    clear e1
    refine tkE (i := 22) rfl ?_
    refine tkE (i := 23) rfl ?_
    refine tkE (i := 24) rfl ?_
    refine tkE (i := 26) rfl ?_
    refine tkE (i := 27) rfl ?_
    refine rdE (i := 25) rfl (fun K hK => ?_)
    go_simp
    (go_at_call 31; with_reducible refine (H31.out _ _ _ (HR.out _ hHeld.2).2.2.2).mono ?_; rintro e w7 ⟨⟨A7, c7, rfl, hr7⟩, hb7⟩)
    go_wp2_with fail
    refine onE hK (HS.out _ (kR _ _ hHeld.2 hb7)) (fun hHeld => ?_)
    clear hK K
    refine rdE (i := 28) rfl (fun K hK => ?_)
    go_simp
    (go_at_call 30; with_reducible refine (H30.out _ _ _ (HR.out _ hHeld.2).1 hr7).mono ?_; rintro e w8 ⟨rfl, hb8⟩)
    go_wp2_with fail
    refine onE hK (HS.out _ (kR _ _ hHeld.2 hb8)) (fun hHeld => ?_)
    clear hK K
    refine tkE (i := 29) rfl ?_
    refine tkE (i := 30) rfl ?_
    refine wpAnyH_done (by kernel_rfl) ?_ _
    go_wp2_with fail
    go_meet
    exact ⟨by first | rfl | simp, hHeld.2⟩
  case rest =>
  obtain ⟨rfl, hPc⟩ := hcut
  clear hR
  generalize wc = W5 at hPc ⊢
  go_step
  go_wp2
  have HN : Hid (N ≤ 16) := by show _ ≤ _; have := hb.out; omega
  go_loopw [106] (fun i wr => ∃ k : Nat, k ≤ N ∧ i = .int .i64 k ∧ R wr) (fun i _ => N - (intOf i).toNat)
  case atStart => exact ⟨0, by omega, rfl, hPc⟩
  case round =>
   obtain ⟨k, hk, rfl, hRk⟩ := hrel
   clear hPc
   by_cases hkn : k < N
   ·
    have hk16 : Hid (k < 16) := by show _ < _; have := HN.out; omega
    have hck : Hid (cut < 16) := by show _ < _; have := hb.out; omega
    have q2 : Hid (wrap64 ((cut : Int) + (k : Int)) = (cut : Int) + (k : Int)) := IntWalk.wrap64_in _ (by have := hk16.out; have := hck.out; omega)
    have hkl : (k : Int) < (N : Int) := by omega
    have dkl : decide ((k : Int) < (N : Int)) = true := decide_eq_true hkl
    go_upto_region 13 with fail
    obtain ⟨Q0, kQ0, hQ0, lQ0, sQ0, eQ0⟩ : ∃ Q : World → Prop, Keep Q ∧ Q wr ∧ Hid (∀ X, Q X → lim ≤ X.heap.size) ∧ Hid (∀ X g cs, Q X → lim ≤ g → Q (X.setCells g 0 cs)) ∧ Hid (∀ X, Q X → R X) := ⟨R, kR, hRk, fun X h => (oR.out _ h).2.2.2.2.2, sR, fun X h => h⟩
    clear hRk

    go_cut [19, 20] from 107 to 186 (fun sp se wr => Q0 wr ∧ se = .int .i64 0 ∧ ∃ g, sp = .pointer (some ⟨g, 0, none⟩) ∧ Bk wr g 54 (ta k).toArray)
    case first =>
     as_aux_lemma =>
      have q0 := oR.out _ (eQ0.out _ hQ0)
      have hcon := C.h35 k _ _ d7 hk16.out q0.2.1.2
      have Gl := C.gc; have Gs := C.ga k
      have hbl := q0.2.1.1
      clear C Gp Gt q0 hkl dkl hk
      go_wp2_with (first
       | (refine wpList_load_row rfl 54 _ rfl g7 rfl 54 tc.toArray (0, 0) _ hbl Tryz.underlying54 rfl Gl.i54 ?_)
       | (go_at_call 35; (try rw [q2.out]); (with_reducible refine hcon.mono ?_); rintro e w2 ⟨rfl, hb2⟩; have hP2 := kQ0 _ _ hQ0 hb2; have hb := Bk.new w2 54 z36)
       | (refine wpList_store_mid rfl 54 (.tmp 19) (.tmp 116) rfl w2.heap.size 0 (ta k).toArray rfl rfl (hb.there _ (by rw [Gs.s36]; decide)) Gs.i54 Gs.one ?_))
      go_meet
      exact ⟨sQ0.out _ _ _ (kQ0 _ _ hP2 (bt_new w2 _)) (lQ0.out _ hP2), rfl, w2.heap.size, rfl, new_teams w2 (ta k) Gs.s36⟩
    case rest =>
    obtain ⟨hPc, rfl, g19, rfl, hb19⟩ := hcut
    clear hQ0
    generalize wc = XQ1 at hPc hb19 ⊢
    obtain ⟨Q1, kQ1, hQ1, oQ1, sQ1, lQ1⟩ : ∃ Q : World → Prop, Keep Q ∧ Q XQ1 ∧ Hid (∀ X, Q X → Q0 X ∧ Bk X g19 54 (ta k).toArray) ∧ Hid (∀ X g cs, Q X → XQ1.heap.size ≤ g → Q (X.setCells g 0 cs)) ∧ Hid (∀ X, Q X → XQ1.heap.size ≤ X.heap.size) :=
     ⟨fun X => Q0 X ∧ Below XQ1.heap.size XQ1 X, keep_and kQ0 (keep_below XQ1), ⟨hPc, Below.refl _ _⟩, fun X h => ⟨h.1, hb19.below h.2 hb19.lt⟩, fun X g cs h hg => ⟨sQ0.out X g cs h.1 (Nat.le_trans (lQ0.out _ hPc) hg), below_sets hg h.2 _ _⟩, fun X h => h.2.size⟩
    clear hPc hb19
    go_upto_region 14 with fail

    go_cut [21, 22] from 107 to 186 (fun sp se wr => Q1 wr ∧ se = .int .i64 0 ∧ ∃ g, sp = .pointer (some ⟨g, 0, none⟩) ∧ Bk wr g 54 (ta k).toArray)
    case first =>
     as_aux_lemma =>
      have q0 := oR.out _ (eQ0.out _ (oQ1.out _ hQ1).1)
      have hcon := C.h35u k _ _ d9 hk16.out q0.2.2.1.2
      have Gl := C.gu; have Gs := C.ga k
      have hbl := q0.2.2.1.1
      clear C Gp Gt q0 hkl dkl hk
      go_wp2_with (first
       | (refine wpList_load_row rfl 54 _ rfl g9 rfl 54 tu.toArray (0, 0) _ hbl Tryz.underlying54 rfl Gl.i54 ?_)
       | (go_at_call 35; (try rw [q2.out]); (with_reducible refine hcon.mono ?_); rintro e w2 ⟨rfl, hb2⟩; have hP2 := kQ1 _ _ hQ1 hb2; have hb := Bk.new w2 54 z36)
       | (refine wpList_store_mid rfl 54 (.tmp 21) (.tmp 123) rfl w2.heap.size 0 (ta k).toArray rfl rfl (hb.there _ (by rw [Gs.s36]; decide)) Gs.i54 Gs.one ?_))
      go_meet
      exact ⟨sQ1.out _ _ _ (kQ1 _ _ hP2 (bt_new w2 _)) (lQ1.out _ hP2), rfl, w2.heap.size, rfl, new_teams w2 (ta k) Gs.s36⟩
    case rest =>
    obtain ⟨hPc, rfl, g21, rfl, hb21⟩ := hcut
    clear hQ1
    generalize wc = XQ2 at hPc hb21 ⊢
    obtain ⟨Q2, kQ2, hQ2, oQ2, sQ2, lQ2⟩ : ∃ Q : World → Prop, Keep Q ∧ Q XQ2 ∧ Hid (∀ X, Q X → Q1 X ∧ Bk X g21 54 (ta k).toArray) ∧ Hid (∀ X g cs, Q X → XQ2.heap.size ≤ g → Q (X.setCells g 0 cs)) ∧ Hid (∀ X, Q X → XQ2.heap.size ≤ X.heap.size) :=
     ⟨fun X => Q1 X ∧ Below XQ2.heap.size XQ2 X, keep_and kQ1 (keep_below XQ2), ⟨hPc, Below.refl _ _⟩, fun X h => ⟨h.1, hb21.below h.2 hb21.lt⟩, fun X g cs h hg => ⟨sQ1.out X g cs h.1 (Nat.le_trans (lQ1.out _ hPc) hg), below_sets hg h.2 _ _⟩, fun X h => h.2.size⟩
    clear hPc hb21
    go_upto_region 15 with fail

    go_cut [23, 24] from 107 to 186 (fun sp se wr => Q2 wr ∧ se = .int .i64 0 ∧ ∃ g, sp = .pointer (some ⟨g, 0, none⟩) ∧ Bk wr g 54 (ts k).toArray)
    case first =>
     as_aux_lemma =>
      have q0 := oR.out _ (eQ0.out _ (oQ1.out _ (oQ2.out _ hQ2).1).1)
      have hcon := C.h35v k _ _ d12 hk16.out q0.2.2.2.1.2
      have Gl := C.gv; have Gs := C.gs k
      have hbl := q0.2.2.2.1.1
      clear C Gp Gt q0 hkl dkl hk
      go_wp2_with (first
       | (refine wpList_load_row rfl 54 _ rfl g12 rfl 54 tv.toArray (0, 0) _ hbl Tryz.underlying54 rfl Gl.i54 ?_)
       | (go_at_call 35; (try rw [q2.out]); (with_reducible refine hcon.mono ?_); rintro e w2 ⟨rfl, hb2⟩; have hP2 := kQ2 _ _ hQ2 hb2; have hb := Bk.new w2 54 z36)
       | (refine wpList_store_mid rfl 54 (.tmp 23) (.tmp 132) rfl w2.heap.size 0 (ts k).toArray rfl rfl (hb.there _ (by rw [Gs.s36]; decide)) Gs.i54 Gs.one ?_))
      go_meet
      exact ⟨sQ2.out _ _ _ (kQ2 _ _ hP2 (bt_new w2 _)) (lQ2.out _ hP2), rfl, w2.heap.size, rfl, new_teams w2 (ts k) Gs.s36⟩
    case rest =>
    obtain ⟨hPc, rfl, g23, rfl, hb23⟩ := hcut
    clear hQ2
    generalize wc = XQ3 at hPc hb23 ⊢
    obtain ⟨Q3, kQ3, hQ3, oQ3, sQ3, lQ3⟩ : ∃ Q : World → Prop, Keep Q ∧ Q XQ3 ∧ Hid (∀ X, Q X → Q2 X ∧ Bk X g23 54 (ts k).toArray) ∧ Hid (∀ X g cs, Q X → XQ3.heap.size ≤ g → Q (X.setCells g 0 cs)) ∧ Hid (∀ X, Q X → XQ3.heap.size ≤ X.heap.size) :=
     ⟨fun X => Q2 X ∧ Below XQ3.heap.size XQ3 X, keep_and kQ2 (keep_below XQ3), ⟨hPc, Below.refl _ _⟩, fun X h => ⟨h.1, hb23.below h.2 hb23.lt⟩, fun X g cs h hg => ⟨sQ2.out X g cs h.1 (Nat.le_trans (lQ2.out _ hPc) hg), below_sets hg h.2 _ _⟩, fun X h => h.2.size⟩
    clear hPc hb23
    go_upto_region 16 with fail
    go_cut [25, 26] from 107 to 186 (fun sp se wr => Q3 wr ∧ sp = .string (wh k) ∧ se = .int .i64 0)
    case first =>
     as_aux_lemma =>
      have q0 := oR.out _ (eQ0.out _ (oQ1.out _ (oQ2.out _ (oQ3.out _ hQ3).1).1).1)
      have hcon := C.h37 k _ _ d7 hk16.out q0.2.1.2
      have Gl := C.gc
      have hbl := q0.2.1.1
      clear C Gp Gt q0 hkl dkl hk
      go_wp2_with (first
       | (refine wpList_load_row rfl 54 _ rfl g7 rfl 54 tc.toArray (0, 0) _ hbl Tryz.underlying54 rfl Gl.i54 ?_)
       | (go_at_call 37; (try rw [q2.out]); (with_reducible refine hcon.mono ?_); rintro e w2 ⟨rfl, hb2⟩; have hP2 := kQ3 _ _ hQ3 hb2))
      go_meet
      exact ⟨hP2, rfl, rfl⟩
    case rest =>
    obtain ⟨hPc, rfl, rfl⟩ := hcut
    clear hQ3
    generalize wc = Y1 at hPc ⊢
    have hQ3 := hPc
    clear hPc
    go_upto_region 17 with fail
    go_cut [27, 28] from 107 to 186 (fun sp se wr => Q3 wr ∧ sp = .string (wh k) ∧ se = .int .i64 0)
    case first =>
     as_aux_lemma =>
      have q0 := oR.out _ (eQ0.out _ (oQ1.out _ (oQ2.out _ (oQ3.out _ hQ3).1).1).1)
      have hcon := C.h37v k _ _ d12 hk16.out q0.2.2.2.1.2
      have Gl := C.gv
      have hbl := q0.2.2.2.1.1
      clear C Gp Gt q0 hkl dkl hk
      go_wp2_with (first
       | (refine wpList_load_row rfl 54 _ rfl g12 rfl 54 tv.toArray (0, 0) _ hbl Tryz.underlying54 rfl Gl.i54 ?_)
       | (go_at_call 37; (try rw [q2.out]); (with_reducible refine hcon.mono ?_); rintro e w2 ⟨rfl, hb2⟩; have hP2 := kQ3 _ _ hQ3 hb2))
      go_meet
      exact ⟨hP2, rfl, rfl⟩
    case rest =>
    obtain ⟨hPc, rfl, rfl⟩ := hcut
    clear hQ3
    generalize wc = Y2 at hPc ⊢
    have hQ3 := hPc
    clear hPc
    go_upto_region 18 with fail
    go_cut [185] from 107 to 186 (fun s185 wr => s185 = .bool false ∧ R wr)
    case first =>
     as_aux_lemma =>
      have f3 := (oQ3.out _ hQ3).2
      have f2 := (oQ2.out _ (oQ3.out _ hQ3).1).2
      have f1 := (oQ1.out _ (oQ2.out _ (oQ3.out _ hQ3).1).1).2
      have fR := eQ0.out _ (oQ1.out _ (oQ2.out _ (oQ3.out _ hQ3).1).1).1
      obtain ⟨a, b, e1, e2, ha, hbl⟩ := C.parts k
      have Ga := C.ga k
      obtain ⟨E33a, E33b⟩ : (∀ W, (binOp .neq 33 (.agg a.toArray) (.agg a.toArray)).run Tryz.prog W = .ok (.bool false) W) ∧ ∀ W, (binOp .neq 33 (.agg b.toArray) (.agg b.toArray)).run Tryz.prog W = .ok (.bool false) W := ⟨fun W => (C.neq33 k a b e1 ha W).1, fun W => (C.neq33 k a b e1 ha W).2⟩
      have E54 := C.neq54a k
      have hi0 : (Tryz.prog.info? 33).map (·.size) = some a.length := by rw [info33, ha]
      have hi1 : (Tryz.prog.info? 33).map (·.size) = some b.length := by rw [info33, hbl]
      have r30 : ∀ j, j < b.length → Y2.cell? ⟨g23, 0 + j, none⟩ = b[j]? := fun j hj => by rw [f3.cell, e2, List.getElem?_toArray, Nat.zero_add, List.getElem?_append_left hj]
      have r31 : ∀ j, j < a.length → Y2.cell? ⟨g23, 18 + j, none⟩ = a[j]? := fun j hj => by rw [f3.cell, e2, List.getElem?_toArray, List.getElem?_append_right (by omega)]; congr 1; omega
      have r10 : ∀ j, j < a.length → Y2.cell? ⟨g19, 0 + j, none⟩ = a[j]? := fun j hj => by rw [f1.cell, e1, List.getElem?_toArray, Nat.zero_add, List.getElem?_append_left hj]
      have r11 : ∀ j, j < b.length → Y2.cell? ⟨g19, 18 + j, none⟩ = b[j]? := fun j hj => by rw [f1.cell, e1, List.getElem?_toArray, List.getElem?_append_right (by omega)]; congr 1; omega
      have r1 : ∀ j, j < (ta k).length → Y2.cell? ⟨g19, 0 + j, none⟩ = (ta k)[j]? := fun j hj => by rw [f1.cell, List.getElem?_toArray, Nat.zero_add]
      have r2 : ∀ j, j < (ta k).length → Y2.cell? ⟨g21, 0 + j, none⟩ = (ta k)[j]? := fun j hj => by rw [f2.cell, List.getElem?_toArray, Nat.zero_add]
      have hss : (wh k != wh k) = false := by simp
      have wz : IntKind.i64.wrap 0 = 0 := by decide
      clear C Gp Gt oR sR e1 e2 ha hbl
      generalize ta k = tk at *
      generalize wh k = wk at *
      go_wp2_with (first
       | (refine wpList_load_cells_g 54 _ rfl g19 0 rfl tk r1 _ Tryz.underlying54 rfl Ga.l54 rfl ?_)
       | (refine wpList_load_cells_g 54 _ rfl g21 0 rfl tk r2 _ Tryz.underlying54 rfl Ga.l54 rfl ?_)
       | (refine wpList_load_cells_g 33 _ rfl g23 0 rfl b r30 _ Tryz.underlying33 rfl hi1 rfl ?_)
       | (refine wpList_load_cells_g 33 _ rfl g23 18 rfl a r31 _ Tryz.underlying33 rfl hi0 rfl ?_)
       | (refine wpList_load_cells_g 33 _ rfl g19 0 rfl a r10 _ Tryz.underlying33 rfl hi0 rfl ?_)
       | (refine wpList_load_cells_g 33 _ rfl g19 18 rfl b r11 _ Tryz.underlying33 rfl hi1 rfl ?_))
      go_meet
      exact ⟨by first | rfl | simp, fR⟩
    case rest =>
    obtain ⟨rfl, hRn⟩ := hcut
    clear hQ3 kQ1 oQ1 sQ1 lQ1 kQ2 oQ2 sQ2 lQ2 kQ3 oQ3 sQ3 lQ3 kQ0 lQ0 sQ0 eQ0
    generalize wc = Z at hRn ⊢
    go_step
    have hN16 := HN.out
    have q1 : IntKind.i64.wrap ((k : Int) + 1) = (k : Int) + 1 := IntWalk.i64_in _ (by omega)
    go_wp2
    go_roundw
    case rel => exact ⟨k + 1, by omega, by go_num, hRn⟩
    case measure => simp [intOf]; omega
   ·
    obtain rfl : k = N := by omega
    have hkl : ¬ (k : Int) < (k : Int) := by omega
    have hB := Gp.below _ (oR.out _ hRk).1
    clear C Gp oR sR kR
    go_wp2
    go_ret
    exact ⟨rfl, hB⟩
end Go.Proofs.YtmagppkclnebjaaGreatDoor
