/- lineup.Stints and Pitchers. -/
import Derived.Test.YtmagppkclnebjaaGreatDoorA17
import Derived.Test.YtmagppkclnebjaaGreatDoorA12
import Derived.Test.YtmagppkclnebjaaGreatDoorN1
set_option linter.unusedVariables false
set_option linter.unusedSimpArgs false
set_option linter.unusedSimpArgs false
namespace Go.Proofs.YtmagppkclnebjaaGreatDoor
open Go.RowKit
open L

def L.stintsR (t : Tms) (l : List Chg) (p : Int) : List Sti × Int := if ccIdx t l p ≠ 0 then ([], ccIdx t l p) else (allL t l p, 0)
theorem own_below {w w' : World} {base : Nat} {e : TypeId} {size n : Nat} {v : Value} {xs : List Value} (h : w.ownsRow base e size v n xs) (hb : Below w.heap.size w w') : w'.ownsRow base e size v n xs :=
 h.kept (show w.grownBy w' none from ⟨hb.os, hb.tape, hb.output, hb.size, fun i hi _ => hb.block i hi⟩) (by cases hv : v.ownBlock with | none => exact .inl rfl | some r => exact .inr (by simp))

set_option maxHeartbeats 4000000 in
set_option maxRecDepth 100000 in
theorem stintsAll_any (t : Tms) (ht : t.ok) (T : Array Value) (hT : T = t.cells.toArray) (l : List Chg) (A : Option Addr) (n c : Nat) (hn : l.length = n) (p : Int) (w : World) (hl : RdC w A l) :
 Calls Tryz.prog 44 #[.agg T, .slice A n c, .int .i64 p] w fun x w' => (∃ v, x = .returned (.tuple #[v, .int .i64 (stintsR t l p).2]) ∧ SlK 6 w' v (stintsR t l p).1.length (flatS (stintsR t l p).1)) ∧ Below w.heap.size w w' := by
 have F : Hid (Below w.heap.size w (w.alloc (.cells T 54)) ∧ Bk (w.alloc (.cells T 54)) w.heap.size 54 t.cells.toArray) := by
  refine ⟨bt_new w _, by rw [← hT]; exact Bk.new w 54 T⟩
 have Ht := Lib.hid ht; have Hn := Lib.hid hn; have Hl := Lib.hid hl
 have Hi := Lib.hid (info54s t.cells.toArray.size (Tms.size36 t ht))
 clear ht hn hl hT
 have hcc : ∀ W, Below w.heap.size w W → Calls Tryz.prog 61 #[.agg t.cells.toArray, .slice A n c] W fun x w' => x = .returned (.int .i64 (checkChanges t l)) ∧ Below W.heap.size W w' := fun W hW =>
  checkChanges_pre t Ht.out _ rfl l A n c Hn.out W (Hl.out.below hW)
 have Hcc := Lib.hid hcc; clear hcc
 by_cases hE : ccIdx t l p = 0
 ·
  have hz : (firstE [checkChanges t l, withinE p 0 256] != 0) = false := by simpa [ccIdx] using hE
  obtain ⟨h0, hp0, hp1⟩ := ccIdx_zero hE
  have HE := Lib.hid hE; clear hE
  have h64 := (cc_parts h0).2.1
  have hn1 : n ≤ 64 := by have := Hn.out; omega
  clear h0 h64
  go_enter Tryz.func44, Tryz.ntmps44
  go_upto_region 1 with fail
  generalize (w.alloc (.cells T 54)) = W0 at F ⊢
  go_upto_region 4 with (first
   | (refine wpList_load_row rfl 54 _ rfl w.heap.size rfl 54 t.cells.toArray (0, 0) _ F.out.2 Tryz.underlying54 rfl Hi.out ?_)
   | (go_at_call 61; refine (Hcc.out _ F.out.1).mono ?_; rintro e w1 ⟨rfl, hb1⟩)
   | (go_at_call 90; refine (indexed_any _ _).mono ?_; rintro e w' ⟨rfl, rfl⟩)
   | (go_at_call 89; refine (first2 _ _ _ _ _ _ (by exact heap_alloc_new _ _)).mono ?_; rintro e w' ⟨rfl, rfl⟩))
  have F1 : Hid (Below w.heap.size w (w1.alloc (.cells #[.int .i64 (checkChanges t l), .int .i64 (withinE p 0 256)] 30)) ∧ Bk (w1.alloc (.cells #[.int .i64 (checkChanges t l), .int .i64 (withinE p 0 256)] 30)) w.heap.size 54 t.cells.toArray) :=
   ⟨bt_alloc (bt_trans F.out.1 hb1) _, (F.out.2.below hb1 F.out.2.lt).alloc _⟩
  clear F hb1
  generalize (w1.alloc (.cells #[.int .i64 (checkChanges t l), .int .i64 (withinE p 0 256)] 30)) = W2 at F1 ⊢
  have Hall := Lib.hid (all_any t Ht.out t.cells.toArray rfl l A n c Hn.out hn1 p W2 (Hl.out.below F1.out.1))
  have Hr := Lib.hid (show stintsR t l p = (allL t l p, 0) by unfold stintsR; rw [if_neg (by rw [HE.out]; simp)])
  go_wp2_with (first
   | (refine wpList_load_row rfl 54 _ rfl w.heap.size rfl 54 t.cells.toArray (0, 0) _ F1.out.2 Tryz.underlying54 rfl Hi.out ?_)
   | (go_at_call 98; refine Hall.out.mono ?_; rintro e w3 ⟨⟨v, rfl, hown⟩, hb3⟩))
  go_ret2
  rw [Hr.out]
  exact ⟨⟨_, rfl, SlK.of_own hown⟩, bt_trans F1.out.1 hb3⟩
 ·
  have hz : (firstE [checkChanges t l, withinE p 0 256] != 0) = true := by simpa [ccIdx] using hE
  have HE := Lib.hid hE; clear hE
  go_enter Tryz.func44, Tryz.ntmps44
  go_upto_region 1 with fail
  generalize (w.alloc (.cells T 54)) = W0 at F ⊢
  go_wp2_with (first
   | (refine wpList_load_row rfl 54 _ rfl w.heap.size rfl 54 t.cells.toArray (0, 0) _ F.out.2 Tryz.underlying54 rfl Hi.out ?_)
   | (go_at_call 61; refine (Hcc.out _ F.out.1).mono ?_; rintro e w1 ⟨rfl, hb1⟩)
   | (go_at_call 90; refine (indexed_any _ _).mono ?_; rintro e w' ⟨rfl, rfl⟩)
   | (go_at_call 89; refine (first2 _ _ _ _ _ _ (by exact heap_alloc_new _ _)).mono ?_; rintro e w' ⟨rfl, rfl⟩))
  go_ret2
  rw [show stintsR t l p = ([], ccIdx t l p) by unfold stintsR; rw [if_pos HE.out]]
  exact ⟨⟨_, rfl, SlK.nil 6 _⟩, bt_alloc (bt_trans F.out.1 hb1) _⟩

theorem Tms.bkRange {W : World} {g : Nat} {ty : TypeId} {t : Tms} (h : Bk W g ty t.cells.toArray) : W.rangeAt g 0 t.cells := fun j v hv => by
 rw [Nat.zero_add, h.cell, List.getElem?_toArray]; exact hv
theorem rangeAt_belowT {W W' : World} {g : Nat} {xs : List Value} (h : W.rangeAt g 0 xs) (hb : Below W.heap.size W W') (hg : g < W.heap.size) : W'.rangeAt g 0 xs := fun j v hv => by
 rw [hb.cell (p := ⟨g, 0 + j, none⟩) hg]; exact h j v hv
def L.pitE (t : Tms) (l : List Chg) (p side : Int) : Int := firstE [checkChanges t l, withinE p 0 256, sidedE side]

set_option maxHeartbeats 4000000 in
set_option maxRecDepth 100000 in
theorem pitchers_any (t : Tms) (ht : t.ok) (T : Array Value) (hT : T = t.cells.toArray) (l : List Chg) (A : Option Addr) (n c : Nat) (hn : l.length = n) (p side : Int) (w : World) (hl : RdC w A l)
 (h12 : pitE t l p side = 0 → (pitchersOf (allL t l p) side).length ≤ 12) :
 Calls Tryz.prog 45 #[.agg T, .slice A n c, .int .i64 p, .int .i64 side] w fun x w' =>
  (∃ (A' : Option Addr) (m c' : Nat) (S' : List Sti), x = .returned (.tuple #[.slice A' m c', .int .i64 (pitE t l p side)]) ∧ S'.length = m ∧ RdS w' A' S' ∧
   (pitE t l p side = 0 → S'.Perm (pitchersOf (allL t l p) side) ∧ S'.Pairwise (fun a b => a.fr ≤ b.fr)) ∧ (pitE t l p side ≠ 0 → S' = [])) ∧ Below w.heap.size w w' := by
 have F : Hid (Below w.heap.size w ((w.alloc (.cells T 54)).alloc (.cells #[.int .i64 side] 3)) ∧ Bk ((w.alloc (.cells T 54)).alloc (.cells #[.int .i64 side] 3)) w.heap.size 54 t.cells.toArray ∧ Bk ((w.alloc (.cells T 54)).alloc (.cells #[.int .i64 side] 3)) (w.heap.size + 1) 3 #[.int .i64 side]) := by
  refine ⟨bt_alloc (bt_new w _) _, by rw [← hT]; exact (Bk.new w 54 T).alloc _, ?_⟩
  have := Bk.new (w.alloc (.cells T 54)) 3 #[.int .i64 side]
  rwa [World.size_alloc] at this
 have Ht := Lib.hid ht; have Hn := Lib.hid hn; have Hl := Lib.hid hl; have H12 := Lib.hid h12
 have Hi := Lib.hid (info54s t.cells.toArray.size (Tms.size36 t ht))
 have Hi' := Lib.hid (show (Tryz.prog.info? 54).map (·.size) = some t.cells.length by rw [info54, Tms.cells_len t ht])
 clear ht hn hl hT h12
 have hcc : ∀ W, Below w.heap.size w W → Calls Tryz.prog 61 #[.agg t.cells.toArray, .slice A n c] W fun x w' => x = .returned (.int .i64 (checkChanges t l)) ∧ Below W.heap.size W w' := fun W hW =>
  checkChanges_pre t Ht.out _ rfl l A n c Hn.out W (Hl.out.below hW)
 have Hcc := Lib.hid hcc; clear hcc
 go_enter Tryz.func45, Tryz.ntmps45
 go_upto_region 1 with fail
 generalize ((w.alloc (.cells T 54)).alloc (.cells #[.int .i64 side] 3)) = W0 at F ⊢
 have hs0 := F.out.2.2.lt
 have r0 : W0.rangeAt w.heap.size 0 t.cells := Tms.bkRange F.out.2.1
 have s0 : W0.cell? ⟨w.heap.size + 1, 0, none⟩ = some (.int .i64 side) := by rw [F.out.2.2.cell]; rfl
 refine wp_region_held_drew (S := fun W => W.rangeAt w.heap.size 0 t.cells ∧ W.cell? ⟨w.heap.size + 1, 0, none⟩ = some (.int .i64 side)) (by kernel_rfl) (⟨r0, s0⟩) (fun hHeld => ?_)
 refine ldE (i := 0) rfl rfl rfl (t.cells) (fun W h => h.1) Tryz.underlying54 rfl (Hi'.out) ?_
 refine tkE (i := 1) rfl ?_
 refine tkE (i := 3) rfl ?_
 refine tkE (i := 5) rfl ?_
 refine rdE (i := 2) rfl (fun K hK => ?_)
 go_simp
 (go_at_call 61; refine (Hcc.out _ (bt_drew F.out.1)).mono ?_; rintro e w1 ⟨rfl, hb1⟩)
 go_wp2_with fail
 refine onE hK (⟨rangeAt_belowT hHeld.1 hb1 (by show w.heap.size < W0.heap.size; omega), (hb1.cell (p := ⟨w.heap.size + 1, 0, none⟩) hs0).trans hHeld.2⟩) (fun hHeld => ?_)
 clear hK K
 have hs1 : w.heap.size + 1 < w1.heap.size := Nat.lt_of_lt_of_le hs0 hb1.size
 refine rdE (i := 4) rfl (fun K hK => ?_)
 go_simp
 (go_at_call 90; refine (indexed_any _ _).mono ?_; rintro e w' ⟨rfl, rfl⟩)
 go_wp2_with fail
 refine onE hK (hHeld) (fun hHeld => ?_)
 clear hK K
 refine rdE (i := 6) rfl (fun K hK => ?_)
 go_simp
 (go_at_call 94; refine (sided_any _ _).mono ?_; rintro e w' ⟨rfl, rfl⟩)
 go_wp2_with fail
 refine onE hK (hHeld) (fun hHeld => ?_)
 clear hK K
 refine rdE (i := 7) rfl (fun K hK => ?_)
 go_simp
 refine onE hK (⟨rangeAt_belowT hHeld.1 (bt_new w1 _) (by omega), (World.cell?_alloc_lt _ _ ⟨w.heap.size + 1, 0, none⟩ hs1).trans hHeld.2⟩) (fun hHeld => ?_)
 clear hK K
 refine rdE (i := 8) rfl (fun K hK => ?_)
 go_simp
 (go_at_call 89; refine (first3 _ _ _ _ _ _ _ (by exact heap_alloc_new _ _)).mono ?_; rintro e w' ⟨rfl, rfl⟩)
 go_wp2_with fail
 refine onE hK (hHeld) (fun hHeld => ?_)
 clear hK K
 refine rdE (i := 9) rfl (fun K hK => ?_)
 go_simp
 refine onE hK (hHeld) (fun hHeld => ?_)
 clear hK K
 refine wpAnyH_done (by kernel_rfl) ?_ _
 have F1 : Hid (Below w.heap.size w (w1.alloc (.cells #[.int .i64 (checkChanges t l), .int .i64 (withinE p 0 256), .int .i64 (sidedE side)] 30)) ∧ Bk (w1.alloc (.cells #[.int .i64 (checkChanges t l), .int .i64 (withinE p 0 256), .int .i64 (sidedE side)] 30)) w.heap.size 54 t.cells.toArray ∧ Bk (w1.alloc (.cells #[.int .i64 (checkChanges t l), .int .i64 (withinE p 0 256), .int .i64 (sidedE side)] 30)) (w.heap.size + 1) 3 #[.int .i64 side]) :=
  ⟨bt_alloc (bt_trans (bt_drew F.out.1) hb1) _, (F.out.2.1.drew.below hb1 F.out.2.1.lt).alloc _, (F.out.2.2.drew.below hb1 F.out.2.2.lt).alloc _⟩
 clear F hb1 r0 s0 hHeld
 generalize (w1.alloc (.cells #[.int .i64 (checkChanges t l), .int .i64 (withinE p 0 256), .int .i64 (sidedE side)] 30)) = W2 at F1 ⊢
 by_cases hE : firstE [checkChanges t l, withinE p 0 256, sidedE side] = 0
 ·
  have hz : (firstE [checkChanges t l, withinE p 0 256, sidedE side] != 0) = false := by simpa using hE
  obtain ⟨h0, hx1, hx2⟩ := firstE3 hE
  clear hx1 hx2
  have HE := Lib.hid hE; clear hE
  have h64 := (cc_parts h0).2.1
  have hn1 : n ≤ 64 := by have := Hn.out; omega
  clear h0 h64
  have Hall := Lib.hid (all_any t Ht.out t.cells.toArray rfl l A n c Hn.out hn1 p W2 (Hl.out.below F1.out.1))
  have hlen : (allL t l p).length ≤ 100000 := by
   have h1 := sidesL_len t l p 2
   rw [sidesL_two, Hn.out] at h1
   have h2 : 2 * (9 * (n + 1)) ≤ 2 * (9 * 65) := Nat.mul_le_mul (Nat.le_refl _) (by omega)
   omega
  have h12 := H12.out HE.out
  have H12' := Lib.hid h12
  clear h12
  have hsz2 := F1.out.1.size
  go_upto_region 5 with (first
   | (refine wpList_load_row rfl 54 _ rfl w.heap.size rfl 54 t.cells.toArray (0, 0) _ F1.out.2.1 Tryz.underlying54 rfl Hi.out ?_)
   | (go_at_call 98; refine Hall.out.mono ?_; rintro e w3 ⟨⟨v, rfl, hown⟩, hb3⟩)
   | (go_at_call 99; refine (deleteFunc_any side (w.heap.size + 1) W2.heap.size (allL t l p) v _ hlen hown (F1.out.2.2.below hb3 F1.out.2.2.lt)).mono ?_; rintro e w4 ⟨⟨v', rfl, hown', hob⟩, hg4⟩))
  have hlo : ∀ r, v.ownBlock = some r → w.heap.size ≤ r := fun r e => by have := (hown.lt r e).1; omega
  have F4 : Hid (Below w.heap.size w w4 ∧ w4.ownsRow W2.heap.size 107 6 v' (pitchersOf (allL t l p) side).length (flatS (pitchersOf (allL t l p) side))) :=
   ⟨(bt_trans F1.out.1 hb3).grown hg4 (by have := (bt_trans F1.out.1 hb3).size; omega) hlo, hown'⟩
  clear F1 hown hb3 hob hg4 hlo
  rcases hown'.2 with ⟨rfl, hnil⟩ | ⟨g, cap, cur, rfl, hgb, _⟩
  ·
   clear hown'
   have Hnil := Lib.hid hnil; clear hnil
   go_wp2_with (first
    | (go_at_call 101; refine (sortNone _ _ _).mono ?_; rintro e w5 ⟨rfl, rfl⟩))
   go_ret2
   refine ⟨⟨none, 0, 0, [], by unfold pitE; rw [HE.out]; rfl, rfl, fun k hk => absurd hk (by simp), fun _ => ⟨?_, List.Pairwise.nil⟩, fun h => absurd HE.out h⟩, F4.out.1⟩
   rw [List.eq_nil_of_length_eq_zero Hnil.out]
  ·
   clear hown'
   generalize hm : (pitchersOf (allL t l p) side).length = m at F4 H12' ⊢
   have Hm := Lib.hid hm; clear hm
   have Hsort := Lib.hid (sortFunc_any W2.heap.size g cap m (pitchersOf (allL t l p) side) w4 Hm.out H12'.out F4.out.2)
   go_wp2_with (first
    | (go_at_call 101; refine Hsort.out.mono ?_; rintro e w5 ⟨rfl, hg5, S', hperm, hpw, hrd⟩))
   go_ret2
   refine ⟨⟨_, m, cap, S', by unfold pitE; rw [HE.out]; rfl, by rw [hperm.length_eq, Hm.out], hrd, fun _ => ⟨hperm, hpw⟩, fun h => absurd HE.out h⟩, F4.out.1.grown hg5 (by have := F4.out.1.size; omega) (fun r e => by have := Option.some.inj e; omega)⟩
 ·
  have hz : (firstE [checkChanges t l, withinE p 0 256, sidedE side] != 0) = true := by simpa using hE
  have HE := Lib.hid hE; clear hE
  go_wp2
  go_ret2
  exact ⟨⟨none, 0, 0, [], rfl, rfl, fun k hk => absurd hk (by simp), fun h => absurd h HE.out, fun _ => rfl⟩, F1.out.1⟩
end Go.Proofs.YtmagppkclnebjaaGreatDoor
