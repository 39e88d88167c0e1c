/- lineup.At, Who, SlotOf: what the teams are at a play. -/
import Derived.Test.YtmagppkclnebjaaGreatDoorQg
import Derived.Test.YtmagppkclnebjaaGreatDoorC1
set_option linter.unusedVariables false
set_option linter.unusedSimpArgs false
set_option linter.unusedSimpArgs false
namespace Go.Proofs.YtmagppkclnebjaaGreatDoor
open Go.RowKit
open L

def L.atR (t : Tms) (l : List Chg) (p : Int) : Tms × Int := if ccIdx t l p ≠ 0 then (Tms.zero, ccIdx t l p) else (atL t l p, 0)
theorem Tms.zero_cells : Tms.zero.cells.toArray = #[.string { data := #[] }, .string { data := #[] }, .string { data := #[] }, .string { data := #[] }, .string { data := #[] }, .string { data := #[] }, .string { data := #[] }, .string { data := #[] }, .string { data := #[] }, .int .i64 0, .int .i64 0, .int .i64 0, .int .i64 0, .int .i64 0, .int .i64 0, .int .i64 0, .int .i64 0, .int .i64 0, .string { data := #[] }, .string { data := #[] }, .string { data := #[] }, .string { data := #[] }, .string { data := #[] }, .string { data := #[] }, .string { data := #[] }, .string { data := #[] }, .string { data := #[] }, .int .i64 0, .int .i64 0, .int .i64 0, .int .i64 0, .int .i64 0, .int .i64 0, .int .i64 0, .int .i64 0, .int .i64 0] := rfl
theorem ccIdx_zero {t : Tms} {l : List Chg} {p : Int} (h : ccIdx t l p = 0) : checkChanges t l = 0 ∧ 0 ≤ p ∧ p ≤ 256 := by
 obtain ⟨a, b⟩ := firstE2 h
 exact ⟨a, withinE_zero b⟩
theorem okS_all {t : Tms} {l : List Chg} (h : checkChanges t l = 0) : ∀ d ∈ l, d.okS := fun d hd => okS_of ((cc_parts h).2.2.1 d hd)

set_option maxHeartbeats 4000000 in
set_option maxRecDepth 100000 in
theorem At_any (t : Tms) (ht : t.ok) (T : Array Value) (hT : T = t.cells.toArray) (l : List Chg) (A : Option Addr) (n c : Nat) (hn : l.length = n) (p : Int) (w : World) (hl : RdC w A l) :
 Calls Tryz.prog 35 #[.agg T, .slice A n c, .int .i64 p] w fun x w' => x = .returned (.tuple #[.agg (atR t l p).1.cells.toArray, .int .i64 (atR t l p).2]) ∧ Below w.heap.size w w' := by
 have F : Hid (Below w.heap.size w ((w.alloc (.cells T 54)).alloc (.cells #[.string { data := #[] }, .string { data := #[] }, .string { data := #[] }, .string { data := #[] }, .string { data := #[] }, .string { data := #[] }, .string { data := #[] }, .string { data := #[] }, .string { data := #[] }, .int .i64 0, .int .i64 0, .int .i64 0, .int .i64 0, .int .i64 0, .int .i64 0, .int .i64 0, .int .i64 0, .int .i64 0, .string { data := #[] }, .string { data := #[] }, .string { data := #[] }, .string { data := #[] }, .string { data := #[] }, .string { data := #[] }, .string { data := #[] }, .string { data := #[] }, .string { data := #[] }, .int .i64 0, .int .i64 0, .int .i64 0, .int .i64 0, .int .i64 0, .int .i64 0, .int .i64 0, .int .i64 0, .int .i64 0] 54)) ∧ Bk ((w.alloc (.cells T 54)).alloc (.cells #[.string { data := #[] }, .string { data := #[] }, .string { data := #[] }, .string { data := #[] }, .string { data := #[] }, .string { data := #[] }, .string { data := #[] }, .string { data := #[] }, .string { data := #[] }, .int .i64 0, .int .i64 0, .int .i64 0, .int .i64 0, .int .i64 0, .int .i64 0, .int .i64 0, .int .i64 0, .int .i64 0, .string { data := #[] }, .string { data := #[] }, .string { data := #[] }, .string { data := #[] }, .string { data := #[] }, .string { data := #[] }, .string { data := #[] }, .string { data := #[] }, .string { data := #[] }, .int .i64 0, .int .i64 0, .int .i64 0, .int .i64 0, .int .i64 0, .int .i64 0, .int .i64 0, .int .i64 0, .int .i64 0] 54)) w.heap.size 54 t.cells.toArray ∧
  Bk ((w.alloc (.cells T 54)).alloc (.cells #[.string { data := #[] }, .string { data := #[] }, .string { data := #[] }, .string { data := #[] }, .string { data := #[] }, .string { data := #[] }, .string { data := #[] }, .string { data := #[] }, .string { data := #[] }, .int .i64 0, .int .i64 0, .int .i64 0, .int .i64 0, .int .i64 0, .int .i64 0, .int .i64 0, .int .i64 0, .int .i64 0, .string { data := #[] }, .string { data := #[] }, .string { data := #[] }, .string { data := #[] }, .string { data := #[] }, .string { data := #[] }, .string { data := #[] }, .string { data := #[] }, .string { data := #[] }, .int .i64 0, .int .i64 0, .int .i64 0, .int .i64 0, .int .i64 0, .int .i64 0, .int .i64 0, .int .i64 0, .int .i64 0] 54)) (w.heap.size + 1) 54 #[.string { data := #[] }, .string { data := #[] }, .string { data := #[] }, .string { data := #[] }, .string { data := #[] }, .string { data := #[] }, .string { data := #[] }, .string { data := #[] }, .string { data := #[] }, .int .i64 0, .int .i64 0, .int .i64 0, .int .i64 0, .int .i64 0, .int .i64 0, .int .i64 0, .int .i64 0, .int .i64 0, .string { data := #[] }, .string { data := #[] }, .string { data := #[] }, .string { data := #[] }, .string { data := #[] }, .string { data := #[] }, .string { data := #[] }, .string { data := #[] }, .string { data := #[] }, .int .i64 0, .int .i64 0, .int .i64 0, .int .i64 0, .int .i64 0, .int .i64 0, .int .i64 0, .int .i64 0, .int .i64 0]) := by
  refine ⟨bt_alloc (bt_new w _) _, by rw [← hT]; exact (Bk.new w 54 T).alloc _, ?_⟩
  have := Bk.new (w.alloc (.cells T 54)) 54 #[.string { data := #[] }, .string { data := #[] }, .string { data := #[] }, .string { data := #[] }, .string { data := #[] }, .string { data := #[] }, .string { data := #[] }, .string { data := #[] }, .string { data := #[] }, .int .i64 0, .int .i64 0, .int .i64 0, .int .i64 0, .int .i64 0, .int .i64 0, .int .i64 0, .int .i64 0, .int .i64 0, .string { data := #[] }, .string { data := #[] }, .string { data := #[] }, .string { data := #[] }, .string { data := #[] }, .string { data := #[] }, .string { data := #[] }, .string { data := #[] }, .string { data := #[] }, .int .i64 0, .int .i64 0, .int .i64 0, .int .i64 0, .int .i64 0, .int .i64 0, .int .i64 0, .int .i64 0, .int .i64 0]
  rwa [World.size_alloc] at this
 have Ht := Lib.hid ht; have Hn := Lib.hid hn; have Hl := Lib.hid hl
 have Hi := Lib.hid (info54s t.cells.toArray.size (Tms.size36 t ht))
 clear ht hn hl hT
 have hcc : ∀ W, Below w.heap.size w W → Calls Tryz.prog 61 #[.agg t.cells.toArray, .slice A n c] W fun x w' => x = .returned (.int .i64 (checkChanges t l)) ∧ Below W.heap.size W w' := fun W hW =>
  checkChanges_pre t Ht.out _ rfl l A n c Hn.out W (Hl.out.below hW)
 have Hcc := Lib.hid hcc; clear hcc
 by_cases hE : ccIdx t l p = 0
 ·
  have hz : (firstE [checkChanges t l, withinE p 0 256] != 0) = false := by simpa [ccIdx] using hE
  obtain ⟨h0, hp0, hp1⟩ := ccIdx_zero hE
  have HE := Lib.hid hE; clear hE
  have Hok := Lib.hid (okS_all h0)
  have h64 := (cc_parts h0).2.1
  have hn1 : n ≤ 1000 := by have := Hn.out; omega
  clear h0 h64
  go_enter Tryz.func35, Tryz.ntmps35
  go_upto_region 1 with fail
  generalize (w.alloc (.cells T 54)).alloc (.cells #[.string { data := #[] }, .string { data := #[] }, .string { data := #[] }, .string { data := #[] }, .string { data := #[] }, .string { data := #[] }, .string { data := #[] }, .string { data := #[] }, .string { data := #[] }, .int .i64 0, .int .i64 0, .int .i64 0, .int .i64 0, .int .i64 0, .int .i64 0, .int .i64 0, .int .i64 0, .int .i64 0, .string { data := #[] }, .string { data := #[] }, .string { data := #[] }, .string { data := #[] }, .string { data := #[] }, .string { data := #[] }, .string { data := #[] }, .string { data := #[] }, .string { data := #[] }, .int .i64 0, .int .i64 0, .int .i64 0, .int .i64 0, .int .i64 0, .int .i64 0, .int .i64 0, .int .i64 0, .int .i64 0] 54) = W0 at F ⊢
  go_upto_region 4 with (first
   | (refine wpList_load_row rfl 54 _ rfl w.heap.size rfl 54 t.cells.toArray (0, 0) _ F.out.2.1 Tryz.underlying54 rfl Hi.out ?_)
   | (go_at_call 61; refine (Hcc.out _ F.out.1).mono ?_; rintro e w1 ⟨rfl, hb1⟩)
   | (go_at_call 90; refine (indexed_any _ _).mono ?_; rintro e w' ⟨rfl, rfl⟩)
   | (go_at_call 89; refine (first2 _ _ _ _ _ _ (by exact heap_alloc_new _ _)).mono ?_; rintro e w' ⟨rfl, rfl⟩))
  have F1 : Hid (Below w.heap.size w (w1.alloc (.cells #[.int .i64 (checkChanges t l), .int .i64 (withinE p 0 256)] 30)) ∧ Bk (w1.alloc (.cells #[.int .i64 (checkChanges t l), .int .i64 (withinE p 0 256)] 30)) w.heap.size 54 t.cells.toArray ∧
   Bk (w1.alloc (.cells #[.int .i64 (checkChanges t l), .int .i64 (withinE p 0 256)] 30)) (w.heap.size + 1) 54 #[.string { data := #[] }, .string { data := #[] }, .string { data := #[] }, .string { data := #[] }, .string { data := #[] }, .string { data := #[] }, .string { data := #[] }, .string { data := #[] }, .string { data := #[] }, .int .i64 0, .int .i64 0, .int .i64 0, .int .i64 0, .int .i64 0, .int .i64 0, .int .i64 0, .int .i64 0, .int .i64 0, .string { data := #[] }, .string { data := #[] }, .string { data := #[] }, .string { data := #[] }, .string { data := #[] }, .string { data := #[] }, .string { data := #[] }, .string { data := #[] }, .string { data := #[] }, .int .i64 0, .int .i64 0, .int .i64 0, .int .i64 0, .int .i64 0, .int .i64 0, .int .i64 0, .int .i64 0, .int .i64 0]) :=
   ⟨bt_alloc (bt_trans F.out.1 hb1) _, (F.out.2.1.below hb1 F.out.2.1.lt).alloc _, (F.out.2.2.below hb1 F.out.2.2.lt).alloc _⟩
  clear F hb1
  generalize (w1.alloc (.cells #[.int .i64 (checkChanges t l), .int .i64 (withinE p 0 256)] 30)) = W2 at F1 ⊢
  have hat := at_any t Ht.out t.cells.toArray rfl l A n c Hn.out hn1 Hok.out p W2 (Hl.out.below F1.out.1)
  have Hat := Lib.hid hat; clear hat
  have hr : atR t l p = (atL t l p, 0) := by unfold atR; rw [if_neg (by rw [HE.out]; simp)]
  have hok2 := atL_ok l t p Ht.out
  obtain ⟨T2, hT2⟩ : ∃ T2, T2 = atL t l p := ⟨_, rfl⟩
  rw [← hT2] at Hat hok2 hr
  have Hr := Lib.hid hr; clear hT2
  have Hi2 := Lib.hid (info54s T2.cells.toArray.size (Tms.size36 T2 hok2))
  have Hone := Lib.hid (Tms.oneCell T2)
  have Hs := Lib.hid (Tms.size36 T2 hok2)
  have hth : ∀ W, Below W2.heap.size W2 W → W.there (w.heap.size + 1) 0 T2.cells.toArray.size := fun W hW => (F1.out.2.2.below hW F1.out.2.2.lt).there _ (by rw [Hs.out]; exact Nat.le_refl _)
  have Hth := Lib.hid hth; clear hth hr hok2
  go_wp2_with (first
   | (refine wpList_load_row rfl 54 _ rfl w.heap.size rfl 54 t.cells.toArray (0, 0) _ F1.out.2.1 Tryz.underlying54 rfl Hi.out ?_)
   | (go_at_call 91; refine Hat.out.mono ?_; rintro e w3 ⟨rfl, hb3⟩)
   | (refine wp_store_mid 54 (.tmp 6) (.tmp 23) rfl (w.heap.size + 1) 0 T2.cells.toArray rfl rfl (Hth.out _ hb3) Hi2.out Hone.out ?_)
   | (refine wpList_store_mid rfl 54 (.tmp 6) (.tmp 23) rfl (w.heap.size + 1) 0 T2.cells.toArray rfl rfl (Hth.out _ hb3) Hi2.out Hone.out ?_))
  refine bodyPost_ret (results_cell_row2 rfl _ _ (w.heap.size + 1) 54 T2.cells.toArray _ rfl ((F1.out.2.2.below hb3 F1.out.2.2.lt).fill T2.cells.toArray (by rw [Hs.out]; rfl)) Tryz.underlying54 rfl Hi2.out) rfl ?_
  exact ⟨by rw [Hr.out]; rfl, below_sets (by omega) (bt_trans F1.out.1 hb3) _ _⟩
 ·
  have hz : (firstE [checkChanges t l, withinE p 0 256] != 0) = true := by simpa [ccIdx] using hE
  have HE := Lib.hid hE; clear hE
  have Hi2 := Lib.hid (info54s Tms.zero.cells.toArray.size (Tms.size36 _ Tms.zero_ok))
  have Hone := Lib.hid (Tms.oneCell Tms.zero)
  go_enter Tryz.func35, Tryz.ntmps35
  go_upto_region 1 with fail
  generalize (w.alloc (.cells T 54)).alloc (.cells #[.string { data := #[] }, .string { data := #[] }, .string { data := #[] }, .string { data := #[] }, .string { data := #[] }, .string { data := #[] }, .string { data := #[] }, .string { data := #[] }, .string { data := #[] }, .int .i64 0, .int .i64 0, .int .i64 0, .int .i64 0, .int .i64 0, .int .i64 0, .int .i64 0, .int .i64 0, .int .i64 0, .string { data := #[] }, .string { data := #[] }, .string { data := #[] }, .string { data := #[] }, .string { data := #[] }, .string { data := #[] }, .string { data := #[] }, .string { data := #[] }, .string { data := #[] }, .int .i64 0, .int .i64 0, .int .i64 0, .int .i64 0, .int .i64 0, .int .i64 0, .int .i64 0, .int .i64 0, .int .i64 0] 54) = W0 at F ⊢
  have hth : ∀ W o, Below W0.heap.size W0 W → (W.alloc o).there (w.heap.size + 1) 0 Tms.zero.cells.toArray.size := fun W o hW => ((F.out.2.2.below hW F.out.2.2.lt).alloc o).there _ (by rw [Tms.size36 _ Tms.zero_ok]; exact Nat.le_refl _)
  have Hth := Lib.hid hth; clear hth
  go_wp2_with (first
   | (refine wpList_load_row rfl 54 _ rfl w.heap.size rfl 54 t.cells.toArray (0, 0) _ F.out.2.1 Tryz.underlying54 rfl Hi.out ?_)
   | (go_at_call 61; refine (Hcc.out _ F.out.1).mono ?_; rintro e w1 ⟨rfl, hb1⟩)
   | (go_at_call 90; refine (indexed_any _ _).mono ?_; rintro e w' ⟨rfl, rfl⟩)
   | (go_at_call 89; refine (first2 _ _ _ _ _ _ (by exact heap_alloc_new _ _)).mono ?_; rintro e w' ⟨rfl, rfl⟩)
   | (refine wpList_store_mid rfl 54 (.tmp 6) (.tmp 18) rfl (w.heap.size + 1) 0 Tms.zero.cells.toArray rfl rfl (Hth.out _ _ hb1) Hi2.out Hone.out ?_))
  refine bodyPost_ret (results_cell_row2 rfl _ _ (w.heap.size + 1) 54 Tms.zero.cells.toArray _ rfl (((F.out.2.2.below hb1 F.out.2.2.lt).alloc _).fill Tms.zero.cells.toArray rfl) Tryz.underlying54 rfl Hi2.out) rfl ?_
  refine ⟨?_, below_sets (by omega) (bt_alloc (bt_trans F.out.1 hb1) _) _ _⟩
  unfold atR
  rw [if_pos HE.out]
  rfl

def L.whoR (t : Tms) (l : List Chg) (p side pos : Int) : Str × Int :=
 if firstE [checkChanges t l, withinE p 0 256, sidedE side, withinE pos 1 9] ≠ 0 then (.empty, firstE [checkChanges t l, withinE p 0 256, sidedE side, withinE pos 1 9])
 else (holder ((atL t l p).get side) pos, 0)
theorem run_index54' (W : World) (t : Tms) (ht : t.ok) (side : Int) (hs : side = 0 ∨ side = 1) : (Instr.index 54 (.agg t.cells.toArray) (.int .i64 side)).run Tryz.prog W = .ok (.agg (t.get side).cells.toArray) W := by
 rcases hs with rfl | rfl
 ·
  exact run_index54 W t ht 0 (by omega)
 ·
  exact run_index54 W t ht 1 (by omega)

set_option maxHeartbeats 4000000 in
set_option maxRecDepth 100000 in
theorem who_any (t : Tms) (ht : t.ok) (T : Array Value) (hT : T = t.cells.toArray) (l : List Chg) (A : Option Addr) (n c : Nat) (hn : l.length = n) (p side pos : Int) (w : World) (hl : RdC w A l) :
 Calls Tryz.prog 37 #[.agg T, .slice A n c, .int .i64 p, .int .i64 side, .int .i64 pos] w fun x w' => x = .returned (.tuple #[.string (whoR t l p side pos).1, .int .i64 (whoR t l p side pos).2]) ∧ Below w.heap.size w w' := by
 have F : Hid (Below w.heap.size w (w.alloc (.cells T 54)) ∧ Bk (w.alloc (.cells T 54)) w.heap.size 54 t.cells.toArray) := by
  refine ⟨bt_new w _, by rw [← hT]; exact Bk.new w 54 T⟩
 have Ht := Lib.hid ht; have Hn := Lib.hid hn; have Hl := Lib.hid hl
 have Hi := Lib.hid (info54s t.cells.toArray.size (Tms.size36 t ht))
 clear ht hn hl hT
 have hcc : ∀ W, Below w.heap.size w W → Calls Tryz.prog 61 #[.agg t.cells.toArray, .slice A n c] W fun x w' => x = .returned (.int .i64 (checkChanges t l)) ∧ Below W.heap.size W w' := fun W hW =>
  checkChanges_pre t Ht.out _ rfl l A n c Hn.out W (Hl.out.below hW)
 have Hcc := Lib.hid hcc; clear hcc
 by_cases hE : firstE [checkChanges t l, withinE p 0 256, sidedE side, withinE pos 1 9] = 0
 ·
  have hz : (firstE [checkChanges t l, withinE p 0 256, sidedE side, withinE pos 1 9] != 0) = false := by simpa using hE
  obtain ⟨h0, hx1, hs, hx2⟩ := firstE4 hE
  clear hx1 hx2
  have HE := Lib.hid hE; clear hE
  have Hok := Lib.hid (okS_all h0)
  have Hs := Lib.hid (sidedE_zero hs)
  have h64 := (cc_parts h0).2.1
  have hn1 : n ≤ 1000 := by have := Hn.out; omega
  clear h0 h64 hs
  go_enter Tryz.func37, Tryz.ntmps37
  go_upto_region 1 with fail
  generalize (w.alloc (.cells T 54)) = W0 at F ⊢
  go_upto_region 4 with (first
   | (refine wpList_load_row rfl 54 _ rfl w.heap.size rfl 54 t.cells.toArray (0, 0) _ F.out.2 Tryz.underlying54 rfl Hi.out ?_)
   | (go_at_call 61; refine (Hcc.out _ F.out.1).mono ?_; rintro e w1 ⟨rfl, hb1⟩)
   | (go_at_call 90; refine (indexed_any _ _).mono ?_; rintro e w' ⟨rfl, rfl⟩)
   | (go_at_call 94; refine (sided_any _ _).mono ?_; rintro e w' ⟨rfl, rfl⟩)
   | (go_at_call 95; refine (ninth_any _ _).mono ?_; rintro e w' ⟨rfl, rfl⟩)
   | (go_at_call 89; refine (first4 _ _ _ _ _ _ _ _ (by exact heap_alloc_new _ _)).mono ?_; rintro e w' ⟨rfl, rfl⟩))
  have F1 : Hid (Below w.heap.size w (w1.alloc (.cells #[.int .i64 (checkChanges t l), .int .i64 (withinE p 0 256), .int .i64 (sidedE side), .int .i64 (withinE pos 1 9)] 30)) ∧ Bk (w1.alloc (.cells #[.int .i64 (checkChanges t l), .int .i64 (withinE p 0 256), .int .i64 (sidedE side), .int .i64 (withinE pos 1 9)] 30)) w.heap.size 54 t.cells.toArray) :=
   ⟨bt_alloc (bt_trans F.out.1 hb1) _, (F.out.2.below hb1 F.out.2.lt).alloc _⟩
  clear F hb1
  generalize (w1.alloc (.cells #[.int .i64 (checkChanges t l), .int .i64 (withinE p 0 256), .int .i64 (sidedE side), .int .i64 (withinE pos 1 9)] 30)) = W2 at F1 ⊢
  have hat := at_any t Ht.out t.cells.toArray rfl l A n c Hn.out hn1 Hok.out p W2 (Hl.out.below F1.out.1)
  have Hat := Lib.hid hat; clear hat
  have hr : whoR t l p side pos = (holder ((atL t l p).get side) pos, 0) := by unfold whoR; rw [if_neg (by rw [HE.out]; simp)]
  have hok2 := atL_ok l t p Ht.out
  obtain ⟨T2, hT2⟩ : ∃ T2, T2 = atL t l p := ⟨_, rfl⟩
  rw [← hT2] at Hat hok2 hr
  have hix := fun W => run_index54' W T2 hok2 side Hs.out
  have Hok2 := Lib.hid (Tms.get_ok T2 hok2 side)
  obtain ⟨X, hX⟩ : ∃ X, X = T2.get side := ⟨_, rfl⟩
  rw [← hX] at hix Hok2 hr
  have Hr := Lib.hid hr
  clear hr hok2 hT2 hX
  go_wp2_with (first
   | (refine wpList_load_row rfl 54 _ rfl w.heap.size rfl 54 t.cells.toArray (0, 0) _ F1.out.2 Tryz.underlying54 rfl Hi.out ?_)
   | (go_at_call 91; refine Hat.out.mono ?_; rintro e w3 ⟨rfl, hb3⟩)
   | (go_at_call 96; refine (holder_any X Hok2.out _ rfl pos _).mono ?_; rintro e w4 ⟨rfl, hb4⟩))
  go_ret2
  exact ⟨by rw [Hr.out]; rfl, bt_trans (bt_trans F1.out.1 hb3) hb4⟩
 ·
  have hz : (firstE [checkChanges t l, withinE p 0 256, sidedE side, withinE pos 1 9] != 0) = true := by simpa using hE
  have HE := Lib.hid hE; clear hE
  go_enter Tryz.func37, Tryz.ntmps37
  go_upto_region 1 with fail
  generalize (w.alloc (.cells T 54)) = W0 at F ⊢
  go_wp2_with (first
   | (refine wpList_load_row rfl 54 _ rfl w.heap.size rfl 54 t.cells.toArray (0, 0) _ F.out.2 Tryz.underlying54 rfl Hi.out ?_)
   | (go_at_call 61; refine (Hcc.out _ F.out.1).mono ?_; rintro e w1 ⟨rfl, hb1⟩)
   | (go_at_call 90; refine (indexed_any _ _).mono ?_; rintro e w' ⟨rfl, rfl⟩)
   | (go_at_call 94; refine (sided_any _ _).mono ?_; rintro e w' ⟨rfl, rfl⟩)
   | (go_at_call 95; refine (ninth_any _ _).mono ?_; rintro e w' ⟨rfl, rfl⟩)
   | (go_at_call 89; refine (first4 _ _ _ _ _ _ _ _ (by exact heap_alloc_new _ _)).mono ?_; rintro e w' ⟨rfl, rfl⟩))
  go_ret2
  refine ⟨?_, bt_alloc (bt_trans F.out.1 hb1) _⟩
  unfold whoR
  rw [if_pos HE.out]
  rfl

def L.slotOfR (t : Tms) (l : List Chg) (p side : Int) (name : Str) : Int × Int :=
 if firstE [checkChanges t l, withinE p 0 256, sidedE side, namedE name] ≠ 0 then (0, firstE [checkChanges t l, withinE p 0 256, sidedE side, namedE name])
 else (idxF (fun y => decide (y = name)) ((atL t l p).get side).b + 1, whenE (decide (idxF (fun y => decide (y = name)) ((atL t l p).get side).b < 0)) 10)
end Go.Proofs.YtmagppkclnebjaaGreatDoor
