/- dugoutlaw03.LineupPrints: it returns true at every game and string. -/
import Derived.Test.YtmagppkclnebjaaGreatDoorZ4
import Derived.Deep.Cut
import Derived.Deep.CutRange
import Derived.BigQuiet
set_option linter.unusedVariables false
set_option linter.unusedSimpArgs false
set_option linter.unusedSimpArgs false
set_option linter.unusedVariables false
namespace Go.Proofs.YtmagppkclnebjaaGreatDoor
open Go.RowKit
open L

set_option maxHeartbeats 20000000 in
set_option maxRecDepth 100000 in
theorem prt_main (P : World → Prop) (w : World) (tc : List Value) (A : Option Addr) (n c : Nat) (l : List Chg) (x s : Str) (tq : List Value) (lp : List Chg) (mp : Nat) (pa pe : Int)
 (Gp : GP w tc A n c 1 P) (Gt : TC tc) (C : PrtW P tc A n c l x s tq lp mp pa pe) (hs : s.size ≤ 1500) (Etc : Hid (∀ W, (binOp .neq 46 (.agg tc.toArray) (.agg tc.toArray)).run Tryz.prog W = .ok (.bool false) W)) (Otc : Hid (∀ W, Calls Tryz.prog 29 #[.agg tc.toArray] W fun x w' => x = .returned (.agg tc.toArray) ∧ Below W.heap.size W w')) (G : Array Value) (hP : P (w.alloc (.cells G 49))) :
 Calls Tryz.prog 6 #[.agg G, .string s] w fun x w' => x = .returned (.bool true) ∧ Below w.heap.size w w' := by
 go_enter Tryz.func6, Tryz.ntmps6
 go_upto_region 1 with fail
 generalize (w.alloc (.cells G 49)) = W0 at hP ⊢
 go_cut [32] from 21 (fun s32 wr => s32 = .bool false ∧ P wr)
 case first =>
  as_aux_lemma =>
   have hgr := Gp.rg
   have hi49 := Gp.i49
   have h34 := C.h34
   have a0 : ¬ (1500 : Int) < (s.size : Int) := by omega
   have b0 : decide ((1500 : Int) < (s.size : Int)) = false := decide_eq_false a0
   clear hs
   generalize (tc ++ [Value.slice A n c]) = gc at hgr hi49 h34
   go_wp2_with (first
    | (go_at_call 13; refine (C.h13 _ hP).mono ?_; rintro e w1 ⟨rfl, hb1⟩; have hP1 := Gp.kp _ _ hP hb1)
    | (refine wpList_load_cells_g 49 _ rfl w.heap.size 0 rfl gc (fun j hj => by rw [List.getElem?_eq_getElem hj]; exact hgr _ hP1 j _ (List.getElem?_eq_getElem hj)) _ Tryz.underlying49 rfl hi49 rfl ?_)
    | (go_at_call 34; refine (h34 _ hP1).mono ?_; rintro e w2 ⟨rfl, hb2⟩; have hP2 := Gp.kp _ _ hP1 hb2))
   go_meet
   exact ⟨by first | rfl | simp, hP2⟩
 case rest =>
  obtain ⟨rfl, hPc⟩ := hcut
  clear hP hs
  revert hPc
  generalize wc = W0
  intro hP
  go_upto_region 3 with fail
  go_cut [5, 6] from 21 (fun s5 s6 wr => s5 = .string x ∧ s6 = .int .i64 0 ∧ P wr)
  case first =>
   as_aux_lemma =>
    have HS : Hid (∀ X, P X → X.cell? ⟨w.heap.size, 36, none⟩ = some (.slice A n c) ∧ P X) := fun X h => ⟨Gp.c36 _ h, h⟩
    have HG : Hid (∀ X, P X → X.rangeAt w.heap.size 0 tc) := fun X h => Gp.r _ h
    have kQ := Gp.kp
    have hS0 := HS.out _ (kQ _ _ hP (bt_drew (Below.refl _ W0)))
    refine wp_region_held_drew (S := (fun X => X.cell? ⟨w.heap.size, 36, none⟩ = some (.slice A n c) ∧ P X)) (by kernel_rfl) (hS0) (fun hHeld => ?_)
    refine tkE (i := 0) rfl ?_
    refine ldE (i := 1) rfl rfl rfl (tc) (fun W h => HG.out W h.2) Tryz.underlying46 rfl (Gt.l46) ?_
    refine tkE (i := 3) rfl ?_
    refine tkE (i := 4) rfl ?_
    refine rdE (i := 2) rfl (fun K hK => ?_)
    go_simp
    (go_at_call 23; refine (C.h23 _).mono ?_; rintro e w2 ⟨rfl, hb2⟩)
    go_wp2_with fail
    refine onE hK (HS.out _ (kQ _ _ hHeld.2 hb2)) (fun hHeld => ?_)
    clear hK K
    refine rdE (i := 5) rfl (fun K hK => ?_)
    go_simp
    (go_at_call 24; refine (C.h24 _ hHeld.2).mono ?_; rintro e w3 ⟨⟨B, d, rfl, hr3, _⟩, hb3⟩)
    go_wp2_with fail
    refine onE hK (HS.out _ (kQ _ _ hHeld.2 hb3)) (fun hHeld => ?_)
    clear hK K
    refine rdE (i := 6) rfl (fun K hK => ?_)
    go_simp
    (go_at_call 22; refine (C.h22 _ _ _ hHeld.2 hr3).mono ?_; rintro e w4 ⟨rfl, hb4⟩)
    go_wp2_with fail
    refine onE hK (HS.out _ (kQ _ _ hHeld.2 hb4)) (fun hHeld => ?_)
    clear hK K
    refine tkE (i := 7) rfl ?_
    refine tkE (i := 8) rfl ?_
    refine tkE (i := 9) rfl ?_
    refine tkE (i := 10) rfl ?_
    refine tkE (i := 11) rfl ?_
    refine wpAnyH_done (by kernel_rfl) ?_ _
    go_wp2_with fail
    go_meet
    exact ⟨rfl, rfl, hHeld.2⟩
  case rest =>
   obtain ⟨rfl, rfl, hPc⟩ := hcut
   clear hP
   generalize wc = W1 at hPc ⊢
   go_upto_region 4 with fail
   go_cut [7, 8, 9, 10] from 21 (fun s7 s8 s9 s10 wr => P wr ∧ ∃ g B d, s7 = .pointer (some ⟨g, 0, none⟩) ∧ s8 = .slice B n d ∧ s9 = .int .i64 0 ∧ s10 = .int .i64 0 ∧ Bk wr g 54 tc.toArray ∧ RdC wr B l)
   case first =>
    as_aux_lemma =>
     have h25 := C.h25
     have kp := Gp.kp; have lo := Gp.lo; have sets := Gp.sets
     clear C Gp
     go_wp2_with (first
      | (go_at_call 25; (with_reducible refine (h25 _ hPc).mono ?_); rintro e w2 ⟨⟨B, d, rfl, hr2⟩, hb2⟩; have hP2 := kp _ _ hPc hb2; have hb := Bk.new w2 54 z36)
      | (refine wpList_store_mid rfl 54 (.tmp 7) (.tmp 47) rfl w2.heap.size 0 tc.toArray rfl rfl (hb.there _ (by rw [Gt.s36]; decide)) Gt.i54 Gt.one ?_))
     go_meet
     exact ⟨sets _ _ _ (kp _ _ hP2 (bt_new w2 _)) (lo _ hP2), w2.heap.size, B, d, rfl, rfl, rfl, rfl, new_teams w2 tc Gt.s36, new_rdc w2 tc hr2⟩
   case rest =>
    obtain ⟨hPc2, g7, B1, d1, rfl, rfl, rfl, rfl, hb7, hr7⟩ := hcut
    clear hPc
    generalize wc = W2 at hPc2 hb7 hr7 ⊢
    obtain ⟨R, kR, hR, oR⟩ : ∃ R : World → Prop, Keep R ∧ R W2 ∧ Hid ((∀ X, R X → P X ∧ Bk X g7 54 tc.toArray ∧ RdC X B1 l ∧ W2.heap.size ≤ X.heap.size) ∧ ∀ X g cs, R X → W2.heap.size ≤ g → R (X.setCells g 0 cs)) :=
     ⟨fun X => P X ∧ Below W2.heap.size W2 X, keep_and Gp.kp (keep_below W2), ⟨hPc2, Below.refl _ _⟩, fun X h => ⟨h.1, hb7.below h.2 hb7.lt, hr7.below h.2, h.2.size⟩, fun X g cs h hg => ⟨Gp.sets X g cs h.1 (Nat.le_trans (Gp.lo _ hPc2) hg), below_sets hg h.2 _ _⟩⟩
    clear hPc2 hb7 hr7
    go_upto_region 5 with fail
    go_cut [78] from 21 (fun s78 wr => s78 = .bool false ∧ R wr)
    case first =>
     as_aux_lemma =>
      have a0 : ¬ (x.size : Int) < 18 := by have := C.hx; omega
      have b0 : decide ((x.size : Int) < 18) = false := decide_eq_false a0
      have wz : IntKind.i64.wrap 0 = 0 := by decide
      have H31 : Hid (∀ W, R W → Calls Tryz.prog 31 #[.slice B1 n d1] W fun x w' => (∃ A' c', x = .returned (.slice A' n c') ∧ RdC w' A' l) ∧ Below W.heap.size W w') := fun W h =>
       (changes_any l B1 n d1 C.hl.1 (by have := C.hl.2; omega) W (oR.out.1 W h).2.2.1).mono fun x w' ⟨⟨v, e, hv⟩, hb⟩ => by
        obtain ⟨hx, A', c', rfl, hr⟩ := hv
        exact ⟨⟨A', c', e, RdC.of_slk ⟨hx, A', c', rfl, hr⟩⟩, hb⟩
      have H30 : Hid (∀ W A' c', R W → RdC W A' l → Calls Tryz.prog 30 #[.slice A' n c', .slice A n c] W fun x w' => x = .returned (.bool true) ∧ Below W.heap.size W w') := fun W A' c' h hr =>
       (sameChanges_any l l A' A n n c' c W C.hl.1 C.hl.1 (by have := C.hl.2; omega) hr (C.hA W (oR.out.1 W h).1)).mono fun x w' ⟨e, q, e2⟩ => ⟨by rw [e]; simp, by rw [e2]; exact bt_drewN (Below.refl _ _) q⟩
      have HS : Hid (∀ X, R X → X.cell? ⟨w.heap.size, 36, none⟩ = some (.slice A n c) ∧ R X) := fun X h => ⟨Gp.c36 _ (oR.out.1 _ h).1, h⟩
      have HG : Hid (∀ X, R X → X.rangeAt w.heap.size 0 tc ∧ X.rangeAt g7 0 tc) := fun X h => ⟨Gp.r _ (oR.out.1 _ h).1, bkRangeT (oR.out.1 _ h).2.1⟩
      have l54 := Lib.hid Gt.l54; have l46 := Lib.hid Gt.l46
      have hS0 := HS.out _ (kR _ _ hR (bt_drew (Below.refl _ W2)))
      clear C Gp Gt oR
      refine wp_region_held_drew (S := (fun X => X.cell? ⟨w.heap.size, 36, none⟩ = some (.slice A n c) ∧ R X)) (by kernel_rfl) (hS0) (fun hHeld => ?_)
      refine tkE (i := 0) rfl ?_
      refine tkE (i := 1) rfl ?_
      refine tkE (i := 2) rfl ?_
      refine tkE (i := 3) rfl ?_
      refine tkE (i := 4) rfl ?_
      refine tkE (i := 5) rfl ?_
      refine tkE (i := 6) rfl ?_
      refine tkE (i := 7) rfl ?_
      refine tkE (i := 8) rfl ?_
      refine ldE (i := 9) rfl rfl rfl (tc) (fun W h => (HG.out W h.2).2) Tryz.underlying54 rfl (l54.out) ?_
      refine tkE (i := 11) rfl ?_
      refine ldE (i := 12) rfl rfl rfl (tc) (fun W h => (HG.out W h.2).1) Tryz.underlying46 rfl (l46.out) ?_
      refine rdE (i := 10) rfl (fun K hK => ?_)
      go_simp
      (go_at_call 29; refine (Otc.out _).mono ?_; rintro e w3 ⟨rfl, hb3⟩)
      go_wp2_with fail
      refine onE hK (HS.out _ (kR _ _ hHeld.2 hb3)) (fun hHeld => ?_)
      clear hK K
      have e1 := Etc.out
      refine tkE (i := 13) rfl ?_
      clear e1
      refine tkE (i := 14) rfl ?_
      refine tkE (i := 15) rfl ?_
      refine tkE (i := 16) rfl ?_
      refine tkE (i := 18) rfl ?_
      refine tkE (i := 19) rfl ?_
      refine rdE (i := 17) rfl (fun K hK => ?_)
      go_simp
      (go_at_call 31; refine (H31.out _ hHeld.2).mono ?_; rintro e w4 ⟨⟨A4, c4, rfl, hr4⟩, hb4⟩)
      go_wp2_with fail
      refine onE hK (HS.out _ (kR _ _ hHeld.2 hb4)) (fun hHeld => ?_)
      clear hK K
      refine rdE (i := 20) rfl (fun K hK => ?_)
      go_simp
      (go_at_call 30; refine (H30.out _ _ _ hHeld.2 hr4).mono ?_; rintro e w5 ⟨rfl, hb5⟩)
      go_wp2_with fail
      refine onE hK (HS.out _ (kR _ _ hHeld.2 hb5)) (fun hHeld => ?_)
      clear hK K
      refine tkE (i := 21) rfl ?_
      refine tkE (i := 22) rfl ?_
      refine tkE (i := 23) rfl ?_
      refine tkE (i := 24) rfl ?_
      refine tkE (i := 25) rfl ?_
      refine tkE (i := 26) rfl ?_
      refine tkE (i := 27) rfl ?_
      refine wpAnyH_done (by kernel_rfl) ?_ _
      go_wp2_with fail
      go_meet
      exact ⟨by first | rfl | simp, hHeld.2⟩
    case rest =>
     obtain ⟨rfl, hPc⟩ := hcut
     clear hR
     generalize wc = W3 at hPc ⊢
     go_step
     have Gq := C.gq
     go_upto_region 7 with fail
     go_cut [11, 12, 13, 14] from 21 (fun s11 s12 s13 s14 wr => R wr ∧ ∃ g B d, s11 = .pointer (some ⟨g, 0, none⟩) ∧ s12 = .slice B mp d ∧ s13 = .int .i64 pa ∧ s14 = .int .i64 pe ∧ Bk wr g 54 tq.toArray ∧ RdC wr B lp)
     case first =>
      as_aux_lemma =>
       have h25 := C.h25s
       have hP3 := (oR.out.1 _ hPc).1
       clear C Gp Gt
       go_wp2_with (first
        | (go_at_call 25; (with_reducible refine (h25 _ hP3).mono ?_); rintro e w2 ⟨⟨B, d, rfl, hr2⟩, hb2⟩; have hR2 := kR _ _ hPc hb2; have hb := Bk.new w2 54 z36)
        | (refine wpList_store_mid rfl 54 (.tmp 11) (.tmp 82) rfl w2.heap.size 0 tq.toArray rfl rfl (hb.there _ (by rw [Gq.s36]; decide)) Gq.i54 Gq.one ?_))
       go_meet
       exact ⟨oR.out.2 _ _ _ (kR _ _ hR2 (bt_new w2 _)) (oR.out.1 _ hR2).2.2.2, w2.heap.size, B, d, rfl, rfl, rfl, rfl, new_teams w2 tq Gq.s36, new_rdc w2 tq hr2⟩
     case rest =>
      obtain ⟨hR4, g11, B2, d2, rfl, rfl, rfl, rfl, hb11, hr11⟩ := hcut
      clear hPc
      generalize wc = W4 at hR4 hb11 hr11 ⊢
      go_upto_region 8 with fail
      go_cut [87] from 21 (fun s87 wr => s87 = .bool (pe == 0) ∧ wr = W4)
      case first =>
       go_wp2
       go_meet
       exact ⟨rfl, rfl⟩
      case rest =>
      obtain ⟨rfl, hwc⟩ := hcut
      rw [hwc]
      clear hwc
      go_step
      go_cut [15, 16] from 21 (fun s15 s16 wr => R wr)
      case first =>
       as_aux_lemma =>
        by_cases h0 : pe = 0
        ·
         have hz : (pe == 0) = true := by simpa using h0
         have h22 := C.h22s h0
         have hP4 := (oR.out.1 _ hR4).1
         have hss : (s != s) = false := by simp
         clear C Gp Gt oR h0
         go_wp2_with (first
          | (refine wpList_load_row rfl 54 _ rfl g11 rfl 54 tq.toArray (0, 0) _ hb11 Tryz.underlying54 rfl Gq.i54 ?_)
          | (go_at_call 22; (with_reducible refine (h22 _ _ _ hP4 hr11).mono ?_); rintro e w5 ⟨rfl, hb5⟩))
         go_meet
         exact kR _ _ hR4 hb5
        ·
         have hz : (pe == 0) = false := by simpa using h0
         clear h0 C Gp Gt oR
         go_wp2
         go_meet
         exact hR4
      case rest =>
      clear hR4 hb11 hr11
      generalize wc = W5 at hcut ⊢
      go_upto_region 12 with fail
      go_cut [17, 18, 19, 20] from 21 (fun s17 s18 s19 s20 wr => R wr ∧ s19 = .int .i64 (17 + (n : Int)) ∧ s20 = .int .i64 25)
      case first =>
       as_aux_lemma =>
        have h25 := C.h25x
        have hx := C.hx.1
        have hx2 := C.hx.2
        have hP5 := (oR.out.1 _ hcut).1
        have Gz := tc_of Tms.zero Tms.zero_ok
        clear C Gp Gt Gq
        generalize Tms.zero.cells = tz at Gz h25
        have e1 : ((x.size : Int) - 1).toNat = x.size - 1 := by omega
        have e2 : ¬ ((x.size : Int) - 1 < 0) := by omega
        have e3 : (x.size : Int) - 1 ≤ x.size := by omega
        go_wp2_with (first
         | (go_at_call 25; (with_reducible refine (h25 _ hP5).mono ?_); rintro e w2 ⟨⟨B, d, rfl⟩, hb2⟩; have hR2 := kR _ _ hcut hb2; have hb := Bk.new w2 54 z36)
         | (refine wpList_store_mid rfl 54 (.tmp 17) (.tmp 108) rfl w2.heap.size 0 tz.toArray rfl rfl (hb.there _ (by rw [Gz.s36]; decide)) Gz.i54 Gz.one ?_))
        go_meet
        exact ⟨oR.out.2 _ _ _ (kR _ _ hR2 (bt_new w2 _)) (oR.out.1 _ hR2).2.2.2, rfl, rfl⟩
      case rest =>
      obtain ⟨hR6, rfl, rfl⟩ := hcut
      have hB := Gp.below _ (oR.out.1 _ hR6).1
      have hn8 := C.hl.2
      clear C Gp Gt Gq oR kR
      have h8 : (17 + (n : Int) == 17 + (n : Int)) = true := by simp
      go_wp2
      go_ret
      exact ⟨ret_bool (by first | rfl | simp), hB⟩

set_option maxHeartbeats 8000000 in
set_option maxRecDepth 100000 in
theorem prtLaw_any (t : Tms) (ht : t.ok) (l : List Chg) (A : Option Addr) (n c : Nat) (hn : l.length = n) (s : Str)
 (hsz : ∀ s ∈ t.l0.b ++ t.l1.b, s.size ≤ 9223372036854775807) (hszl : ∀ d ∈ l, d.name.size ≤ 9223372036854775807) (w : World) (hl : RdC w A l) (hE : Env w) (G : Array Value) (hG : G = (t.cells ++ [Value.slice A n c]).toArray) :
 Calls Tryz.prog 6 #[.agg G, .string s] w fun x w' => x = .returned (.bool true) ∧ Below w.heap.size w w' := by
 have haw : ∀ W, Below w.heap.size w W → Calls Tryz.prog 13 #[] W fun x w' => x = .returned (.bool true) ∧ Below W.heap.size W w' := fun W h => awake_any W (env_below hE h)
 obtain ⟨P, Gp, hP⟩ := gp_of1 t ht A n c G hG w
 have hrest : ∀ b, validL t l = b → (b = true → 1500 < s.size) → Calls Tryz.prog 6 #[.agg G, .string s] w fun x w' => x = .returned (.bool true) ∧ Below w.heap.size w w' := by
  intro b hv hlong
  have H34 : ∀ W, P W → Calls Tryz.prog 34 #[.agg (t.cells ++ [Value.slice A n c]).toArray] W fun x w' => x = .returned (.bool b) ∧ Below W.heap.size W w' := fun W h => by
   have := valid_any t ht _ l A n c rfl hn hsz hszl W (hl.below (Gp.below _ h))
   rw [hv] at this; exact this
  have Haw : ∀ W, P W → Calls Tryz.prog 13 #[] W fun x w' => x = .returned (.bool true) ∧ Below W.heap.size W w' := fun W h => haw W (Gp.below _ h)
  have hgr := Gp.rg
  have hi49 := Gp.i49
  have Hgr := Lib.hid hgr; have Hi49 := Lib.hid hi49; have H34' := Lib.hid H34; have Haw' := Lib.hid Haw; have Hlong := Lib.hid hlong
  clear hv hG ht hn hsz hszl hl haw H34 Haw hgr hi49 hE hlong
  generalize (t.cells ++ [Value.slice A n c]) = gc at Hgr Hi49 H34'
  go_enter Tryz.func6, Tryz.ntmps6
  go_upto_region 1 with fail
  generalize (w.alloc (.cells G 49)) = W0 at hP ⊢
  go_cut [32] from 21 (fun s32 wr => s32 = .bool true ∧ P wr)
  case first =>
   cases b
   ·
    clear Hlong
    go_wp2_with (first
     | (go_at_call 13; refine (Haw'.out _ hP).mono ?_; rintro e w1 ⟨rfl, hb1⟩; have hP1 := Gp.kp _ _ hP hb1)
     | (refine wpList_load_cells_g 49 _ rfl w.heap.size 0 rfl gc (fun j hj => by rw [List.getElem?_eq_getElem hj]; exact Hgr.out _ hP1 j _ (List.getElem?_eq_getElem hj)) _ Tryz.underlying49 rfl Hi49.out rfl ?_)
     | (go_at_call 34; refine (H34'.out _ hP1).mono ?_; rintro e w2 ⟨rfl, hb2⟩; have hP2 := Gp.kp _ _ hP1 hb2))
    go_meet
    exact ⟨by first | rfl | simp, hP2⟩
   ·
    have h15 := Hlong.out rfl
    have a0 : (1500 : Int) < (s.size : Int) := by omega
    have b0 : decide ((1500 : Int) < (s.size : Int)) = true := decide_eq_true a0
    clear Hlong h15
    go_wp2_with (first
     | (go_at_call 13; refine (Haw'.out _ hP).mono ?_; rintro e w1 ⟨rfl, hb1⟩; have hP1 := Gp.kp _ _ hP hb1)
     | (refine wpList_load_cells_g 49 _ rfl w.heap.size 0 rfl gc (fun j hj => by rw [List.getElem?_eq_getElem hj]; exact Hgr.out _ hP1 j _ (List.getElem?_eq_getElem hj)) _ Tryz.underlying49 rfl Hi49.out rfl ?_)
     | (go_at_call 34; refine (H34'.out _ hP1).mono ?_; rintro e w2 ⟨rfl, hb2⟩; have hP2 := Gp.kp _ _ hP1 hb2))
    go_meet
    exact ⟨by first | rfl | simp, hP2⟩
  case rest =>
   obtain ⟨rfl, hP2⟩ := hcut
   clear hP
   go_wp2_with (go_at_call 13; refine (Haw'.out _ hP2).mono ?_; rintro e w3 ⟨rfl, hb3⟩)
   go_ret
   exact ⟨rfl, Gp.below _ (Gp.kp _ _ hP2 hb3)⟩
 by_cases hv : validL t l = true
 ·
  by_cases hs : s.size ≤ 1500
  ·
   have hE46 : ∀ W, (binOp .neq 46 (.agg t.cells.toArray) (.agg t.cells.toArray)).run Tryz.prog W = .ok (.bool false) W := fun W => by rw [op_neq46 W _ _ ht ht]; simp
   exact prt_main P w t.cells A n c l _ s _ _ _ _ _ Gp (tc_of t ht) (prt_facts P w t ht l A n c hn s hs hsz hszl hl hE haw Gp hv) hs (Lib.hid hE46) (fun W => own_any t ht _ rfl W) G hP
  ·
   exact hrest true hv (fun _ => by omega)
 ·
  exact hrest false (by simpa using hv) (fun h => by cases h)
end Go.Proofs.YtmagppkclnebjaaGreatDoor
