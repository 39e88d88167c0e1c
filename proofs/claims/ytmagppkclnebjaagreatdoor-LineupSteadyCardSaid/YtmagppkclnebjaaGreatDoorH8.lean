/- lineup.SlotOf. -/
import Derived.Test.YtmagppkclnebjaaGreatDoorH4
set_option linter.unusedVariables false
set_option linter.unusedSimpArgs false
set_option linter.unusedSimpArgs false
set_option linter.unusedVariables false
namespace Go.Proofs.YtmagppkclnebjaaGreatDoor
open Go.RowKit
open L

theorem rd_side {W : World} {g : Nat} {t : Tms} (ht : t.ok) (h : Bk W g 54 t.cells.toArray) (sd : Nat) (hs : (sd : Int) = 0 ∨ (sd : Int) = 1) : Rd W (some ⟨g, sd * 18, none⟩) ((t.get sd).b.map .string) := .of_cells fun k hk => by
 have hk9 : k < 9 := by simpa [(Tms.get_ok t ht sd).1] using hk
 have := Tms.cell_b t ht sd hs k hk9
 rw [h.cell, List.getElem?_toArray]
 rw [show ((sd : Int)).toNat = sd by omega] at this
 rw [this, getD_map_str _ _ (by rw [(Tms.get_ok t ht sd).1]; exact hk9)]

set_option maxHeartbeats 4000000 in
set_option maxRecDepth 100000 in
theorem slotOf_any (t : Tms) (ht : t.ok) (T : Array Value) (hT : T = t.cells.toArray) (l : List Chg) (A : Option Addr) (n c : Nat) (hn : l.length = n) (p side : Int) (name : Str) (w : World) (hl : RdC w A l) :
 Calls Tryz.prog 49 #[.agg T, .slice A n c, .int .i64 p, .int .i64 side, .string name] w fun x w' => x = .returned (.tuple #[.int .i64 (slotOfR t l p side name).1, .int .i64 (slotOfR t l p side name).2]) ∧ Below w.heap.size w w' := by
 have F : Hid (Below w.heap.size w (w.alloc (.cells T 54)) ∧ Bk (w.alloc (.cells T 54)) w.heap.size 54 t.cells.toArray) := by
  refine ⟨bt_new w _, by rw [← hT]; exact Bk.new w 54 T⟩
 have Ht := Lib.hid ht; have Hn := Lib.hid hn; have Hl := Lib.hid hl
 have Hi := Lib.hid (info54s t.cells.toArray.size (Tms.size36 t ht))
 clear ht hn hl hT
 have hcc : ∀ W, Below w.heap.size w W → Calls Tryz.prog 61 #[.agg t.cells.toArray, .slice A n c] W fun x w' => x = .returned (.int .i64 (checkChanges t l)) ∧ Below W.heap.size W w' := fun W hW =>
  checkChanges_pre t Ht.out _ rfl l A n c Hn.out W (Hl.out.below hW)
 have Hcc := Lib.hid hcc; clear hcc
 by_cases hE : firstE [checkChanges t l, withinE p 0 256, sidedE side, namedE name] = 0
 ·
  have hz : (firstE [checkChanges t l, withinE p 0 256, sidedE side, namedE name] != 0) = false := by simpa using hE
  obtain ⟨h0, hx1, hs, hx2⟩ := firstE4 hE
  clear hx1 hx2
  have HE := Lib.hid hE; clear hE
  have Hok := Lib.hid (okS_all h0)
  have h64 := (cc_parts h0).2.1
  have hn1 : n ≤ 1000 := by have := Hn.out; omega
  obtain ⟨sd, hsd, hss⟩ : ∃ sd : Nat, sd < 2 ∧ side = (sd : Int) := by
   rcases sidedE_zero hs with e | e
   ·
    exact ⟨0, by omega, e⟩
   ·
    exact ⟨1, by omega, e⟩
  have Hss := Lib.hid hss
  have Hs : Hid ((sd : Int) = 0 ∨ (sd : Int) = 1) := by show _ ∨ _; omega
  clear h0 h64 hs hss
  go_enter Tryz.func49, Tryz.ntmps49
  go_upto_region 1 with fail
  generalize (w.alloc (.cells T 54)) = W0 at F ⊢
  go_upto_region 4 with (first
   | (refine wpList_load_row rfl 54 _ rfl w.heap.size rfl 54 t.cells.toArray (0, 0) _ F.out.2 Tryz.underlying54 rfl Hi.out ?_)
   | (go_at_call 61; refine (Hcc.out _ F.out.1).mono ?_; rintro e w1 ⟨rfl, hb1⟩)
   | (go_at_call 90; refine (indexed_any _ _).mono ?_; rintro e w' ⟨rfl, rfl⟩)
   | (go_at_call 94; refine (sided_any _ _).mono ?_; rintro e w' ⟨rfl, rfl⟩)
   | (go_at_call 104; refine (named_any _ _).mono ?_; rintro e w2 ⟨rfl, hb2⟩)
   | (go_at_call 89; refine (first4 _ _ _ _ _ _ _ _ (by exact heap_alloc_new _ _)).mono ?_; rintro e w' ⟨rfl, rfl⟩))
  have F1 : Hid (Below w.heap.size w (w2.alloc (.cells #[.int .i64 (checkChanges t l), .int .i64 (withinE p 0 256), .int .i64 (sidedE side), .int .i64 (namedE name)] 30)) ∧ Bk (w2.alloc (.cells #[.int .i64 (checkChanges t l), .int .i64 (withinE p 0 256), .int .i64 (sidedE side), .int .i64 (namedE name)] 30)) w.heap.size 54 t.cells.toArray) :=
   ⟨bt_alloc (bt_trans (bt_trans F.out.1 hb1) hb2) _, ((F.out.2.below hb1 F.out.2.lt).below hb2 (F.out.2.below hb1 F.out.2.lt).lt).alloc _⟩
  clear F hb1 hb2
  generalize (w2.alloc (.cells #[.int .i64 (checkChanges t l), .int .i64 (withinE p 0 256), .int .i64 (sidedE side), .int .i64 (namedE name)] 30)) = W2 at F1 ⊢
  have hat := at_any t Ht.out t.cells.toArray rfl l A n c Hn.out hn1 Hok.out p W2 (Hl.out.below F1.out.1)
  have Hat := Lib.hid hat; clear hat
  have hr : slotOfR t l p side name = (idxF (fun y => decide (y = name)) ((atL t l p).get side).b + 1, whenE (decide (idxF (fun y => decide (y = name)) ((atL t l p).get side).b < 0)) 10) := by unfold slotOfR; rw [if_neg (by rw [HE.out]; simp)]
  have hok2 := atL_ok l t p Ht.out
  obtain ⟨T2, hT2⟩ : ∃ T2, T2 = atL t l p := ⟨_, rfl⟩
  rw [← hT2] at Hat hok2 hr
  rw [Hss.out] at hr ⊢
  have HS : Hid (T2.cells.toArray.size = 36) := Tms.size36 T2 hok2
  have Hone := Lib.hid (Tms.oneCell T2)
  have Hi2 := Lib.hid (info54s T2.cells.toArray.size (Tms.size36 T2 hok2))
  have H69 : Hid (∀ W g, Bk W g 54 T2.cells.toArray → Calls Tryz.prog 69 #[.slice (some ⟨g, sd * 18, none⟩) 9 9, .string name] W fun x w' => x = .returned (.int .i64 (idxF (fun y => decide (y = name)) (T2.get sd).b)) ∧ W = w') := fun W g h => indexS_any (T2.get sd).b _ 9 9 name W (Tms.get_ok T2 hok2 sd).1 (by omega) (rd_side hok2 h sd Hs.out)
  have hbd := idxF_bd (fun y => decide (y = name)) (T2.get sd).b
  rw [(Tms.get_ok T2 hok2 sd).1] at hbd
  have Hr := Lib.hid hr
  have s0 : (0 : Int) ≤ (sd : Int) := by omega
  have s2 : (sd : Int) < 2 := by omega
  clear hr hok2 hT2 HE hz
  generalize idxF (fun y => decide (y = name)) (T2.get sd).b = ix at H69 hbd Hr
  have w1 : IntKind.i64.wrap (ix + 1) = ix + 1 := IntWalk.i64_in _ (by omega)
  clear hbd
  generalize T2.cells = tc2 at Hat HS Hone Hi2 H69
  go_upto_region 5 with (first
   | (refine wpList_load_row rfl 54 _ rfl w.heap.size rfl 54 t.cells.toArray (0, 0) _ F1.out.2 Tryz.underlying54 rfl Hi.out ?_)
   | (go_at_call 91; refine Hat.out.mono ?_; rintro e w3 ⟨rfl, hb3⟩)
   | (refine wpList_store_mid rfl 54 (.tmp 13) (.tmp 32) rfl w3.heap.size 0 tc2.toArray rfl rfl ((Bk.new w3 54 #[.string { data := #[] }, .string { data := #[] }, .string { data := #[] }, .string { data := #[] }, .string { data := #[] }, .string { data := #[] }, .string { data := #[] }, .string { data := #[] }, .string { data := #[] }, .int .i64 0, .int .i64 0, .int .i64 0, .int .i64 0, .int .i64 0, .int .i64 0, .int .i64 0, .int .i64 0, .int .i64 0, .string { data := #[] }, .string { data := #[] }, .string { data := #[] }, .string { data := #[] }, .string { data := #[] }, .string { data := #[] }, .string { data := #[] }, .string { data := #[] }, .string { data := #[] }, .int .i64 0, .int .i64 0, .int .i64 0, .int .i64 0, .int .i64 0, .int .i64 0, .int .i64 0, .int .i64 0, .int .i64 0]).there tc2.toArray.size (by rw [HS.out]; decide)) Hi2.out Hone.out ?_))
  have F3 : Hid (Below w.heap.size w ((w3.alloc (.cells #[.string { data := #[] }, .string { data := #[] }, .string { data := #[] }, .string { data := #[] }, .string { data := #[] }, .string { data := #[] }, .string { data := #[] }, .string { data := #[] }, .string { data := #[] }, .int .i64 0, .int .i64 0, .int .i64 0, .int .i64 0, .int .i64 0, .int .i64 0, .int .i64 0, .int .i64 0, .int .i64 0, .string { data := #[] }, .string { data := #[] }, .string { data := #[] }, .string { data := #[] }, .string { data := #[] }, .string { data := #[] }, .string { data := #[] }, .string { data := #[] }, .string { data := #[] }, .int .i64 0, .int .i64 0, .int .i64 0, .int .i64 0, .int .i64 0, .int .i64 0, .int .i64 0, .int .i64 0, .int .i64 0] 54)).setCells w3.heap.size 0 tc2) ∧ Bk ((w3.alloc (.cells #[.string { data := #[] }, .string { data := #[] }, .string { data := #[] }, .string { data := #[] }, .string { data := #[] }, .string { data := #[] }, .string { data := #[] }, .string { data := #[] }, .string { data := #[] }, .int .i64 0, .int .i64 0, .int .i64 0, .int .i64 0, .int .i64 0, .int .i64 0, .int .i64 0, .int .i64 0, .int .i64 0, .string { data := #[] }, .string { data := #[] }, .string { data := #[] }, .string { data := #[] }, .string { data := #[] }, .string { data := #[] }, .string { data := #[] }, .string { data := #[] }, .string { data := #[] }, .int .i64 0, .int .i64 0, .int .i64 0, .int .i64 0, .int .i64 0, .int .i64 0, .int .i64 0, .int .i64 0, .int .i64 0] 54)).setCells w3.heap.size 0 tc2) w3.heap.size 54 tc2.toArray) := by
   have hge : w.heap.size ≤ w3.heap.size := Nat.le_trans F1.out.1.size hb3.size
   refine ⟨below_sets hge (bt_alloc (bt_trans F1.out.1 hb3) _) _ _, ?_⟩
   have := (Bk.new w3 54 #[.string { data := #[] }, .string { data := #[] }, .string { data := #[] }, .string { data := #[] }, .string { data := #[] }, .string { data := #[] }, .string { data := #[] }, .string { data := #[] }, .string { data := #[] }, .int .i64 0, .int .i64 0, .int .i64 0, .int .i64 0, .int .i64 0, .int .i64 0, .int .i64 0, .int .i64 0, .int .i64 0, .string { data := #[] }, .string { data := #[] }, .string { data := #[] }, .string { data := #[] }, .string { data := #[] }, .string { data := #[] }, .string { data := #[] }, .string { data := #[] }, .string { data := #[] }, .int .i64 0, .int .i64 0, .int .i64 0, .int .i64 0, .int .i64 0, .int .i64 0, .int .i64 0, .int .i64 0, .int .i64 0]).fill tc2.toArray (by rw [HS.out]; rfl)
   simpa using this
  clear F1 hb3 Hat HS Hone Hi2
  generalize ((w3.alloc (.cells #[.string { data := #[] }, .string { data := #[] }, .string { data := #[] }, .string { data := #[] }, .string { data := #[] }, .string { data := #[] }, .string { data := #[] }, .string { data := #[] }, .string { data := #[] }, .int .i64 0, .int .i64 0, .int .i64 0, .int .i64 0, .int .i64 0, .int .i64 0, .int .i64 0, .int .i64 0, .int .i64 0, .string { data := #[] }, .string { data := #[] }, .string { data := #[] }, .string { data := #[] }, .string { data := #[] }, .string { data := #[] }, .string { data := #[] }, .string { data := #[] }, .string { data := #[] }, .int .i64 0, .int .i64 0, .int .i64 0, .int .i64 0, .int .i64 0, .int .i64 0, .int .i64 0, .int .i64 0, .int .i64 0] 54)).setCells w3.heap.size 0 tc2) = W3 at F3 ⊢
  generalize w3.heap.size = g at F3 ⊢
  go_wp2_with (first
   | (go_at_call 69; with_reducible refine (H69.out _ g F3.out.2).mono ?_; rintro e w' ⟨rfl, rfl⟩)
   | (go_at_call 68; refine (when_any _ _ _).mono ?_; rintro e w' ⟨rfl, rfl⟩))
  go_ret2
  exact ⟨by first | (rw [Hr.out]; rfl) | (rw [Hss.out, Hr.out]; rfl), F3.out.1⟩
 ·
  have hz : (firstE [checkChanges t l, withinE p 0 256, sidedE side, namedE name] != 0) = true := by simpa using hE
  have HE := Lib.hid hE; clear hE
  go_enter Tryz.func49, Tryz.ntmps49
  go_upto_region 1 with fail
  generalize (w.alloc (.cells T 54)) = W0 at F ⊢
  go_wp2_with (first
   | (refine wpList_load_row rfl 54 _ rfl w.heap.size rfl 54 t.cells.toArray (0, 0) _ F.out.2 Tryz.underlying54 rfl Hi.out ?_)
   | (go_at_call 61; refine (Hcc.out _ F.out.1).mono ?_; rintro e w1 ⟨rfl, hb1⟩)
   | (go_at_call 90; refine (indexed_any _ _).mono ?_; rintro e w' ⟨rfl, rfl⟩)
   | (go_at_call 94; refine (sided_any _ _).mono ?_; rintro e w' ⟨rfl, rfl⟩)
   | (go_at_call 104; refine (named_any _ _).mono ?_; rintro e w2 ⟨rfl, hb2⟩)
   | (go_at_call 89; refine (first4 _ _ _ _ _ _ _ _ (by exact heap_alloc_new _ _)).mono ?_; rintro e w' ⟨rfl, rfl⟩))
  go_ret2
  refine ⟨?_, bt_alloc (bt_trans (bt_trans F.out.1 hb1) hb2) _⟩
  unfold slotOfR
  rw [if_pos HE.out]
  rfl
end Go.Proofs.YtmagppkclnebjaaGreatDoor
