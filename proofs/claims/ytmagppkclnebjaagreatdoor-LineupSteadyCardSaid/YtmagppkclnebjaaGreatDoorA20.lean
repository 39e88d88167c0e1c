/- lineup.Played, whole. -/
import Derived.Test.YtmagppkclnebjaaGreatDoorA19
set_option linter.unusedVariables false
set_option linter.unusedSimpArgs false
set_option linter.unusedSimpArgs false
namespace Go.Proofs.YtmagppkclnebjaaGreatDoor
open Go.RowKit
open L

theorem Rd.lu_rangeB {W : World} {g : Nat} {l : LU} (h : W.rangeAt g 0 l.cells) : Rd W (some ⟨g, 0, none⟩) (l.b.map .string) :=
 Rd.lu_b (o := 0) fun j hj => by rw [List.getElem?_eq_getElem hj]; exact h j _ (List.getElem?_eq_getElem hj)
theorem sum_bd (S : List Sti) (name : Str) (h : ∀ s ∈ S, 0 ≤ s.fr ∧ s.fr < s.to ∧ s.to ≤ 256) : 0 ≤ sumOf S name ∧ sumOf S name ≤ 256 * S.length := by
 unfold sumOf
 induction S with
 | nil => simp
 | cons s r ih =>
  have h1 := h s List.mem_cons_self
  have h2 := ih (fun x hx => h x (List.mem_cons_of_mem _ hx))
  simp only [List.map_cons, List.sum_cons, List.length_cons]
  split <;> omega
theorem sumOf_snoc (S : List Sti) (x : Sti) (name : Str) : sumOf (S ++ [x]) name = sumOf S name + (if x.name = name then x.to - x.fr else 0) := by
 simp [sumOf]
def kn3 (t : Tms) (l : List Chg) (name : Str) (k : Nat) : Bool := l.any (fun c => decide (c.name = name)) || (decide (0 < k) && decide (name ∈ t.l0.b)) || (decide (1 < k) && decide (name ∈ t.l1.b))

set_option maxHeartbeats 8000000 in
set_option maxRecDepth 100000 in
theorem played_any (t : Tms) (ht : t.ok) (T : Array Value) (hT : T = t.cells.toArray) (l : List Chg) (A : Option Addr) (n c : Nat) (hn : l.length = n) (p : Int) (name : Str) (w : World) (hl : RdC w A l) :
 Calls Tryz.prog 51 #[.agg T, .slice A n c, .int .i64 p, .string name] w fun x w' => x = .returned (.tuple #[.int .i64 (playedR t l p name).1, .int .i64 (playedR t l p name).2]) ∧ Below w.heap.size w w' := by
 have F : Hid (Below w.heap.size w ((w.alloc (.cells T 54)).alloc (.cells #[.string name] 9)) ∧ Bk ((w.alloc (.cells T 54)).alloc (.cells #[.string name] 9)) w.heap.size 54 t.cells.toArray ∧ Bk ((w.alloc (.cells T 54)).alloc (.cells #[.string name] 9)) (w.heap.size + 1) 9 #[.string name]) := by
  refine ⟨bt_alloc (bt_new w _) _, by rw [← hT]; exact (Bk.new w 54 T).alloc _, ?_⟩
  have := Bk.new (w.alloc (.cells T 54)) 9 #[.string name]
  rwa [World.size_alloc] at this
 have Ht := Lib.hid ht; have Hn := Lib.hid hn; have Hl := Lib.hid hl
 have Hi := Lib.hid (info54s t.cells.toArray.size (Tms.size36 t ht))
 have Hi' := Lib.hid (show (Tryz.prog.info? 54).map (·.size) = some t.cells.length by rw [info54, Tms.cells_len t ht])
 clear ht hn hl hT
 have hcc : ∀ W, Below w.heap.size w W → Calls Tryz.prog 61 #[.agg t.cells.toArray, .slice A n c] W fun x w' => x = .returned (.int .i64 (checkChanges t l)) ∧ Below W.heap.size W w' := fun W hW =>
  checkChanges_pre t Ht.out _ rfl l A n c Hn.out W (Hl.out.below hW)
 have Hcc := Lib.hid hcc; clear hcc
 go_enter Tryz.func51, Tryz.ntmps51
 go_upto_region 1 with fail
 generalize ((w.alloc (.cells T 54)).alloc (.cells #[.string name] 9)) = W0 at F ⊢
 have hs0 := F.out.2.2.lt
 have r0 : W0.rangeAt w.heap.size 0 t.cells := Tms.bkRange F.out.2.1
 have s0 : W0.cell? ⟨w.heap.size + 1, 0, none⟩ = some (.string name) := by rw [F.out.2.2.cell]; rfl
 refine wp_region_held_drew (S := fun W => W.rangeAt w.heap.size 0 t.cells ∧ W.cell? ⟨w.heap.size + 1, 0, none⟩ = some (.string name)) (by kernel_rfl) (⟨r0, s0⟩) (fun hHeld => ?_)
 refine ldE (i := 0) rfl rfl rfl (t.cells) (fun W h => h.1) Tryz.underlying54 rfl (Hi'.out) ?_
 refine tkE (i := 1) rfl ?_
 refine tkE (i := 3) rfl ?_
 refine tkE (i := 5) rfl ?_
 refine rdE (i := 2) rfl (fun K hK => ?_)
 go_simp
 (go_at_call 61; refine (Hcc.out _ (bt_drew F.out.1)).mono ?_; rintro e w1 ⟨rfl, hb1⟩)
 go_wp2_with fail
 refine onE hK (⟨rangeAt_belowT hHeld.1 hb1 (by show w.heap.size < W0.heap.size; omega), (hb1.cell (p := ⟨w.heap.size + 1, 0, none⟩) hs0).trans hHeld.2⟩) (fun hHeld => ?_)
 clear hK K
 have hs1 : w.heap.size + 1 < w1.heap.size := Nat.lt_of_lt_of_le hs0 hb1.size
 refine rdE (i := 4) rfl (fun K hK => ?_)
 go_simp
 (go_at_call 90; refine (indexed_any _ _).mono ?_; rintro e w' ⟨rfl, rfl⟩)
 go_wp2_with fail
 refine onE hK (hHeld) (fun hHeld => ?_)
 clear hK K
 refine rdE (i := 6) rfl (fun K hK => ?_)
 go_simp
 (go_at_call 104; refine (named_any _ _).mono ?_; rintro e w2 ⟨rfl, hb2⟩)
 go_wp2_with fail
 refine onE hK (⟨rangeAt_belowT hHeld.1 hb2 (by omega), (hb2.cell (p := ⟨w.heap.size + 1, 0, none⟩) hs1).trans hHeld.2⟩) (fun hHeld => ?_)
 clear hK K
 have hs2 : w.heap.size + 1 < w2.heap.size := Nat.lt_of_lt_of_le hs1 hb2.size
 refine rdE (i := 7) rfl (fun K hK => ?_)
 go_simp
 refine onE hK (⟨rangeAt_belowT hHeld.1 (bt_new w2 _) (by omega), (World.cell?_alloc_lt _ _ ⟨w.heap.size + 1, 0, none⟩ hs2).trans hHeld.2⟩) (fun hHeld => ?_)
 clear hK K
 refine rdE (i := 8) rfl (fun K hK => ?_)
 go_simp
 (go_at_call 89; refine (first3 _ _ _ _ _ _ _ (by exact heap_alloc_new _ _)).mono ?_; rintro e w' ⟨rfl, rfl⟩)
 go_wp2_with fail
 refine onE hK (hHeld) (fun hHeld => ?_)
 clear hK K
 refine rdE (i := 9) rfl (fun K hK => ?_)
 go_simp
 refine onE hK (hHeld) (fun hHeld => ?_)
 clear hK K
 refine wpAnyH_done (by kernel_rfl) ?_ _
 have F1 : Hid (Below w.heap.size w (w2.alloc (.cells #[.int .i64 (checkChanges t l), .int .i64 (withinE p 0 256), .int .i64 (namedE name)] 30)) ∧ Bk (w2.alloc (.cells #[.int .i64 (checkChanges t l), .int .i64 (withinE p 0 256), .int .i64 (namedE name)] 30)) w.heap.size 54 t.cells.toArray ∧ Bk (w2.alloc (.cells #[.int .i64 (checkChanges t l), .int .i64 (withinE p 0 256), .int .i64 (namedE name)] 30)) (w.heap.size + 1) 9 #[.string name]) :=
  ⟨bt_alloc (bt_trans (bt_trans (bt_drew F.out.1) hb1) hb2) _, ((F.out.2.1.drew.below hb1 F.out.2.1.lt).below hb2 (by omega)).alloc _, ((F.out.2.2.drew.below hb1 F.out.2.2.lt).below hb2 hs1).alloc _⟩
 clear F hb1 hb2 r0 s0 hHeld hs0
 generalize (w2.alloc (.cells #[.int .i64 (checkChanges t l), .int .i64 (withinE p 0 256), .int .i64 (namedE name)] 30)) = W2 at F1 ⊢
 by_cases hE : firstE [checkChanges t l, withinE p 0 256, namedE name] = 0
 ·
  have hz : (firstE [checkChanges t l, withinE p 0 256, namedE name] != 0) = false := by simpa using hE
  obtain ⟨h0, hx1, hx2⟩ := firstE3 hE
  have hp := withinE_zero hx1
  have hsz : name.size ≤ maxLen := by have := isName_size (namedE_zero hx2); unfold maxLen; omega
  clear hx1 hx2
  have HE := Lib.hid hE; clear hE
  have h64 := (cc_parts h0).2.1
  have hplays : ∀ d ∈ l, 0 ≤ d.play := fun d hd => (checkC_zero ((cc_parts h0).2.2.1 d hd)).2.1.1
  have hall := allL_in t l p hplays
  have Hin := Lib.hid (show ∀ s ∈ allL t l p, 0 ≤ s.fr ∧ s.fr < s.to ∧ s.to ≤ 256 from fun s hs => by have := hall s hs; omega)
  have hn1 : n ≤ 64 := by have := Hn.out; omega
  clear h0 h64 hplays hall hsz hp
  have Hcon := Lib.hid (containsChg_any name (w.heap.size + 1) l A n c W2 Hn.out (by omega) (Hl.out.below F1.out.1) F1.out.2.2)
  go_upto_region 5 with (first
   | (go_at_call 105; refine Hcon.out.mono ?_; rintro e w3 ⟨rfl, hb3⟩))
  have F2 : Hid (Below w.heap.size w w3 ∧ Bk w3 w.heap.size 54 t.cells.toArray ∧ Bk w3 (w.heap.size + 1) 9 #[.string name]) :=
   ⟨bt_trans F1.out.1 hb3, F1.out.2.1.below hb3 F1.out.2.1.lt, F1.out.2.2.below hb3 F1.out.2.2.lt⟩
  clear F1 hb3
  go_wp2_with (refine wpList_load_row rfl 54 _ rfl w.heap.size rfl 54 t.cells.toArray (0, 0) _ F2.out.2.1 Tryz.underlying54 rfl Hi.out ?_)
  go_loopw [11, 33] (fun a i wr => ∃ k : Nat, k ≤ 2 ∧ i = .int .i64 k ∧ a = .bool (kn3 t l name k) ∧ Below w.heap.size w wr ∧ Bk wr w.heap.size 54 t.cells.toArray ∧ Bk wr (w.heap.size + 1) 9 #[.string name]) (fun _ i _ => 2 - (intOf i).toNat)
  case atStart => exact ⟨0, by omega, rfl, by simp [kn3], F2.out.1, F2.out.2.1, F2.out.2.2⟩
  case round =>
   obtain ⟨k, hk, rfl, rfl, hb, hbk, hbn⟩ := hrel
   clear F2
   have Hb := Lib.hid hb; have Hbk := Lib.hid hbk; have Hbn := Lib.hid hbn; clear hb hbk hbn
   by_cases hk2 : k < 2
   ·
    have hix := fun W => run_index54 W t Ht.out k hk2
    have hX := Tms.get_ok t Ht.out k
    have hknS : kn3 t l name (k + 1) = (kn3 t l name k || decide (name ∈ (t.get k).b)) := by
     have hk' : k = 0 ∨ k = 1 := by omega
     rcases hk' with rfl | rfl <;> simp [kn3, Tms.get]
    have HknS := Lib.hid hknS; clear hknS
    generalize hXe : t.get k = X at hix hX
    have HX := Lib.hid hX; have HXe := Lib.hid hXe; clear hX hXe
    have Hth := Lib.hid (store33_there wr X HX.out); have Hone := Lib.hid (LU.oneCell X); have Hi33 := Lib.hid (LU.info33 X HX.out)
    go_upto_region 8 with (first
     | (refine wp_store_mid 33 (.tmp 13) (.tmp 35) rfl wr.heap.size 0 X.cells.toArray rfl rfl Hth.out Hi33.out Hone.out ?_)
     | (refine wpList_store_mid rfl 33 (.tmp 13) (.tmp 35) rfl wr.heap.size 0 X.cells.toArray rfl rfl Hth.out Hi33.out Hone.out ?_))
    have F5 : Hid (Below w.heap.size w ((wr.alloc (.cells #[.string { data := #[] }, .string { data := #[] }, .string { data := #[] }, .string { data := #[] }, .string { data := #[] }, .string { data := #[] }, .string { data := #[] }, .string { data := #[] }, .string { data := #[] }, .int .i64 0, .int .i64 0, .int .i64 0, .int .i64 0, .int .i64 0, .int .i64 0, .int .i64 0, .int .i64 0, .int .i64 0] 33)).setCells wr.heap.size 0 X.cells.toArray.toList) ∧ Bk ((wr.alloc (.cells #[.string { data := #[] }, .string { data := #[] }, .string { data := #[] }, .string { data := #[] }, .string { data := #[] }, .string { data := #[] }, .string { data := #[] }, .string { data := #[] }, .string { data := #[] }, .int .i64 0, .int .i64 0, .int .i64 0, .int .i64 0, .int .i64 0, .int .i64 0, .int .i64 0, .int .i64 0, .int .i64 0] 33)).setCells wr.heap.size 0 X.cells.toArray.toList) w.heap.size 54 t.cells.toArray ∧ Bk ((wr.alloc (.cells #[.string { data := #[] }, .string { data := #[] }, .string { data := #[] }, .string { data := #[] }, .string { data := #[] }, .string { data := #[] }, .string { data := #[] }, .string { data := #[] }, .string { data := #[] }, .int .i64 0, .int .i64 0, .int .i64 0, .int .i64 0, .int .i64 0, .int .i64 0, .int .i64 0, .int .i64 0, .int .i64 0] 33)).setCells wr.heap.size 0 X.cells.toArray.toList) (w.heap.size + 1) 9 #[.string name] ∧ World.rangeAt ((wr.alloc (.cells #[.string { data := #[] }, .string { data := #[] }, .string { data := #[] }, .string { data := #[] }, .string { data := #[] }, .string { data := #[] }, .string { data := #[] }, .string { data := #[] }, .string { data := #[] }, .int .i64 0, .int .i64 0, .int .i64 0, .int .i64 0, .int .i64 0, .int .i64 0, .int .i64 0, .int .i64 0, .int .i64 0] 33)).setCells wr.heap.size 0 X.cells.toArray.toList) wr.heap.size 0 X.cells) := by
     have hbl := bts_below (bt_new wr (.cells #[.string { data := #[] }, .string { data := #[] }, .string { data := #[] }, .string { data := #[] }, .string { data := #[] }, .string { data := #[] }, .string { data := #[] }, .string { data := #[] }, .string { data := #[] }, .int .i64 0, .int .i64 0, .int .i64 0, .int .i64 0, .int .i64 0, .int .i64 0, .int .i64 0, .int .i64 0, .int .i64 0] 33)) X.cells.toArray.toList 0
     exact ⟨bt_trans Hb.out hbl, Hbk.out.below hbl Hbk.out.lt, Hbn.out.below hbl Hbn.out.lt, store33_range wr X HX.out⟩
    clear Hth Hb Hbk Hbn
    generalize ((wr.alloc (.cells #[.string { data := #[] }, .string { data := #[] }, .string { data := #[] }, .string { data := #[] }, .string { data := #[] }, .string { data := #[] }, .string { data := #[] }, .string { data := #[] }, .string { data := #[] }, .int .i64 0, .int .i64 0, .int .i64 0, .int .i64 0, .int .i64 0, .int .i64 0, .int .i64 0, .int .i64 0, .int .i64 0] 33)).setCells wr.heap.size 0 X.cells.toArray.toList) = W5 at F5 ⊢
    generalize wr.heap.size = gx at F5 ⊢
    have y0 : W5.cell? ⟨w.heap.size + 1, 0, none⟩ = some (.string name) := by rw [F5.out.2.2.1.cell]; rfl
    have hsl : ∀ W, (Instr.sliceAt 22 (.pointer (some ⟨gx, 0, none⟩)) none none none).run Tryz.prog W = .ok (.slice (some ⟨gx, 0, none⟩) 9 9) W := fun W =>
     run_slice_arr_all W 22 9 9 _ Tryz.underlying22 size9
    generalize hkb : kn3 t l name k = kb
    have Hkb := Lib.hid hkb; clear hkb
    cases kb with
    | true =>
     refine wp_region_held_drew (S := fun W => W.cell? ⟨w.heap.size + 1, 0, none⟩ = some (.string name) ∧ W.rangeAt gx 0 X.cells) (by kernel_rfl) (⟨y0, F5.out.2.2.2⟩) (fun hHeld => ?_)
     refine tkE (i := 0) rfl ?_
     refine tkE (i := 1) rfl ?_
     refine skE (i := 2) rfl ?_
     refine skE (i := 3) rfl ?_
     refine skE (i := 4) rfl ?_
     refine skE (i := 5) rfl ?_
     refine tkE (i := 6) rfl ?_
     refine tkE (i := 7) rfl ?_
     refine wpAnyH_done (by kernel_rfl) ?_ _
     go_wp2
     go_roundw
     case rel =>
      refine ⟨k + 1, by omega, by go_num, ?_, bt_drew F5.out.1, F5.out.2.1.drew, F5.out.2.2.1.drew⟩
      rw [HknS.out, HXe.out, Hkb.out]; simp
     case measure => simp [intOf]; omega
    | false =>
     refine wp_region_held_drew (S := fun W => W.cell? ⟨w.heap.size + 1, 0, none⟩ = some (.string name) ∧ W.rangeAt gx 0 X.cells) (by kernel_rfl) (⟨y0, F5.out.2.2.2⟩) (fun hHeld => ?_)
     refine tkE (i := 0) rfl ?_
     refine tkE (i := 1) rfl ?_
     refine tkE (i := 2) rfl ?_
     refine tkE (i := 3) rfl ?_
     refine tkE (i := 4) rfl ?_
     refine rdE (i := 5) rfl (fun K hK => ?_)
     go_simp
     (go_at_call 93; refine (containsS_any X.b _ 9 9 name _ HX.out.1 (by omega) (Rd.lu_rangeB hHeld.2)).mono ?_; rintro e w' ⟨rfl, rfl⟩)
     go_wp2_with fail
     refine onE hK (hHeld) (fun hHeld => ?_)
     clear hK K
     refine tkE (i := 6) rfl ?_
     refine tkE (i := 7) rfl ?_
     refine wpAnyH_done (by kernel_rfl) ?_ _
     go_wp2
     go_roundw
     case rel =>
      refine ⟨k + 1, by omega, by go_num, ?_, bt_drew F5.out.1, F5.out.2.1.drew, F5.out.2.2.1.drew⟩
      rw [HknS.out, HXe.out, Hkb.out]; simp
     case measure => simp [intOf]; omega
   ·
    obtain rfl : k = 2 := by omega
    obtain ⟨wo, hwo⟩ : ∃ wo : World, wo = wr := ⟨_, rfl⟩
    rw [← hwo] at Hb Hbk Hbn ⊢
    clear hwo
    have hkk : kn3 t l name 2 = knownIn t l name := by simp [kn3, knownIn]
    rw [hkk]
    have Hr := Lib.hid (show playedR t l p name = if knownIn t l name then (sumOf (allL t l p) name, 0) else (0, 10) by unfold playedR; rw [if_neg (show ¬ playedE t l p name ≠ 0 by rw [show playedE t l p name = 0 from HE.out]; simp)])
    clear hkk
    generalize hkn : knownIn t l name = kw at Hr
    have Hkn := Lib.hid hkn; clear hkn
    cases kw with
    | false =>
     go_wp2
     go_ret2
     rw [Hr.out]
     exact ⟨rfl, Hb.out⟩
    | true =>
     have Hall := Lib.hid (all_any t Ht.out t.cells.toArray rfl l A n c Hn.out hn1 p wo (Hl.out.below Hb.out))
     have hlen : (allL t l p).length ≤ 2000 := by
      have h1 := sidesL_len t l p 2
      rw [sidesL_two, Hn.out] at h1
      have h2 : 2 * (9 * (n + 1)) ≤ 2 * (9 * 65) := Nat.mul_le_mul (Nat.le_refl _) (by omega)
      omega
     obtain ⟨S, hS⟩ : ∃ S, S = allL t l p := ⟨_, rfl⟩
     rw [← hS] at Hall Hin Hr hlen
     clear hS
     go_upto_region 13 with fail
     go_wp2_with (first
      | (refine wpList_load_row rfl 54 _ rfl w.heap.size rfl 54 t.cells.toArray (0, 0) _ Hbk.out Tryz.underlying54 rfl Hi.out ?_)
      | (go_at_call 98; refine Hall.out.mono ?_; rintro e w4 ⟨⟨v, rfl, hown⟩, hb4⟩; obtain ⟨hl6, A', c', rfl, hrd⟩ := SlK.of_own hown))
     have hrs := RdS.of_slk ⟨hl6, A', c', rfl, hrd⟩
     have F6 : Hid (Below w.heap.size w w4 ∧ Bk w4 (w.heap.size + 1) 9 #[.string name] ∧ RdS w4 A' S) := ⟨bt_trans Hb.out hb4, Hbn.out.below hb4 Hbn.out.lt, hrs⟩
     clear hown hb4 hl6 hrd hrs Hb Hbk Hbn Hall
     obtain ⟨m, hm⟩ : ∃ m, m = S.length := ⟨_, rfl⟩
     rw [← hm] at hlen ⊢
     have Hm := Lib.hid hm; clear hm
     go_loopw [14, 51] (fun a i wr => ∃ k : Nat, k ≤ m ∧ i = .int .i64 k ∧ a = .int .i64 (sumOf (S.take k) name) ∧ Below w4.heap.size w4 wr) (fun _ i _ => m - (intOf i).toNat)
     case atStart => exact ⟨0, by omega, rfl, by simp [sumOf], Below.refl _ _⟩
     case round =>
      obtain ⟨k, hk, rfl, rfl, hb⟩ := hrel
      have Hb := Lib.hid hb; clear hb
      by_cases hkm : k < m
      ·
       obtain ⟨b, off, rfl, hc⟩ := (F6.out.2.2.below Hb.out) k (by rw [← Hm.out]; exact hkm)
       have hkS : k < S.length := by rw [← Hm.out]; exact hkm
       have htk : S.take (k + 1) = S.take k ++ [S.getD k noSti] := by
        rw [List.take_succ_eq_append_getElem hkS]
        simp [List.getD, List.getElem?_eq_getElem hkS]
       have hbs := Hin.out (S.getD k noSti) (by simp [List.getD, List.getElem?_eq_getElem hkS])
       generalize S.getD k noSti = e at hc htk hbs
       obtain ⟨hb1, hb2⟩ := sum_bd (S.take k) name (fun x hx => Hin.out x (List.mem_of_mem_take hx))
       have hsn := sumOf_snoc (S.take k) e name
       rw [← htk] at hsn
       have Hsn := Lib.hid hsn
       have hlk : (S.take k).length ≤ 2000 := by rw [List.length_take]; omega
       generalize sumOf (S.take k) name = acc at hb1 hb2 Hsn ⊢
       have q1 : IntKind.i64.wrap (e.to - e.fr) = e.to - e.fr := IntWalk.i64_in _ (by omega)
       have q2 : IntKind.i64.wrap (acc + (e.to - e.fr)) = acc + (e.to - e.fr) := IntWalk.i64_in _ (by omega)
       have c0 : wr.cell? ⟨b, off + k * 6, none⟩ = some (.int .i64 e.side) := hc 0 (by omega)
       have c1 : wr.cell? ⟨b, off + k * 6 + 1, none⟩ = some (.int .i64 e.slot) := hc 1 (by omega)
       have c2 : wr.cell? ⟨b, off + k * 6 + 2, none⟩ = some (.int .i64 e.pos) := hc 2 (by omega)
       have c3 : wr.cell? ⟨b, off + k * 6 + 3, none⟩ = some (.string e.name) := hc 3 (by omega)
       have c4 : wr.cell? ⟨b, off + k * 6 + 4, none⟩ = some (.int .i64 e.fr) := hc 4 (by omega)
       have c5 : wr.cell? ⟨b, off + k * 6 + 5, none⟩ = some (.int .i64 e.to) := hc 5 (by omega)
       clear hc htk hsn hb1 hb2 hbs hlk
       have F7 : Hid (Below w4.heap.size w4 (wr.alloc (.cells #[.int .i64 e.side, .int .i64 e.slot, .int .i64 e.pos, .string e.name, .int .i64 e.fr, .int .i64 e.to] 107)) ∧ Bk (wr.alloc (.cells #[.int .i64 e.side, .int .i64 e.slot, .int .i64 e.pos, .string e.name, .int .i64 e.fr, .int .i64 e.to] 107)) wr.heap.size 107 #[.int .i64 e.side, .int .i64 e.slot, .int .i64 e.pos, .string e.name, .int .i64 e.fr, .int .i64 e.to] ∧ Bk (wr.alloc (.cells #[.int .i64 e.side, .int .i64 e.slot, .int .i64 e.pos, .string e.name, .int .i64 e.fr, .int .i64 e.to] 107)) (w.heap.size + 1) 9 #[.string name]) :=
        ⟨bt_alloc Hb.out _, Bk.new wr 107 _, (F6.out.2.1.below Hb.out F6.out.2.1.lt).alloc _⟩
       go_upto_region 16 with fail
       generalize (wr.alloc (.cells #[.int .i64 e.side, .int .i64 e.slot, .int .i64 e.pos, .string e.name, .int .i64 e.fr, .int .i64 e.to] 107)) = W7 at F7 ⊢
       generalize wr.heap.size = vb at F7 ⊢
       clear c0 c1 c2 c3 c4 c5 Hb
       have b3 : W7.cell? ⟨vb, 3, none⟩ = some (.string e.name) := by rw [F7.out.2.1.cell]; rfl
       have b4 : W7.cell? ⟨vb, 4, none⟩ = some (.int .i64 e.fr) := by rw [F7.out.2.1.cell]; rfl
       have b5 : W7.cell? ⟨vb, 5, none⟩ = some (.int .i64 e.to) := by rw [F7.out.2.1.cell]; rfl
       have y0 : W7.cell? ⟨w.heap.size + 1, 0, none⟩ = some (.string name) := by rw [F7.out.2.2.cell]; rfl
       by_cases hnm : e.name = name
       ·
        have hnt := tl_eq hnm
        have Hnm := Lib.hid hnm; clear hnm
        go_wp2
        go_roundw
        case rel => exact ⟨k + 1, by omega, by go_num, by rw [Hsn.out, if_pos Hnm.out], F7.out.1⟩
        case measure => simp [intOf]; omega
       ·
        have hnt := tl_ne hnm
        have Hnm := Lib.hid hnm; clear hnm
        go_wp2
        go_roundw
        case rel => exact ⟨k + 1, by omega, by go_num, by rw [Hsn.out, if_neg Hnm.out, Int.add_zero], F7.out.1⟩
        case measure => simp [intOf]; omega
      ·
       obtain rfl : k = m := by omega
       have hts : S.take k = S := List.take_of_length_le (by rw [← Hm.out]; exact Nat.le_refl _)
       have Hts := Lib.hid hts; clear hts
       go_wp2
       go_ret2
       rw [Hr.out, Hts.out]
       exact ⟨rfl, bt_trans F6.out.1 Hb.out⟩
 ·
  have hz : (firstE [checkChanges t l, withinE p 0 256, namedE name] != 0) = true := by simpa using hE
  have HE := Lib.hid hE; clear hE
  go_wp2
  go_ret2
  have hr : playedR t l p name = (0, playedE t l p name) := by unfold playedR; rw [if_pos (show playedE t l p name ≠ 0 from HE.out)]
  rw [hr]
  exact ⟨rfl, F1.out.1⟩
end Go.Proofs.YtmagppkclnebjaaGreatDoor
