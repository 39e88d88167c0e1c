/- The reference: Played. -/
import Derived.Test.YtmagppkclnebjaaGreatDoorH3
set_option linter.unusedVariables false
set_option linter.unusedSimpArgs false
set_option linter.unusedSimpArgs false
set_option linter.unusedVariables false
namespace Go.Proofs.YtmagppkclnebjaaGreatDoor
open Go.RowKit
open L

/-- at how many of n plays a player is there, as the reference asks it -/
def playedA (t : Tms) (l : List Chg) (name : Str) (n : Nat) : Nat := (List.range n).countP fun (k : Nat) => decide (name ∈ (atAll t l k).l0.b) || decide (name ∈ (atAll t l k).l1.b)
theorem playedA_succ (t : Tms) (l : List Chg) (name : Str) (k : Nat) : playedA t l name (k + 1) = playedA t l name k + if (decide (name ∈ (atAll t l k).l0.b) || decide (name ∈ (atAll t l k).l1.b)) = true then 1 else 0 := by
 unfold playedA
 rw [List.range_succ, List.countP_append, List.countP_singleton]
theorem playedA_le (t : Tms) (l : List Chg) (name : Str) (n : Nat) : playedA t l name n ≤ n := by
 unfold playedA
 have := List.countP_le_length (p := fun (k : Nat) => decide (name ∈ (atAll t l k).l0.b) || decide (name ∈ (atAll t l k).l1.b)) (l := List.range n)
 simpa using this

set_option maxHeartbeats 4000000 in
set_option maxRecDepth 100000 in
theorem refPlayed_any (t : Tms) (ht : t.ok) (T : Array Value) (hT : T = t.cells.toArray) (l : List Chg) (A : Option Addr) (n c : Nat) (hn : l.length = n) (hle : n ≤ 1000) (hok : ∀ d ∈ l, d.okS) (N : Nat) (hN : N ≤ 1000) (name : Str) (w : World) (hl : RdC w A l) :
 Calls Tryz.prog 55 #[.agg T, .slice A n c, .int .i64 N, .string name] w fun x w' => x = .returned (.int .i64 (playedA t l name N)) ∧ Below w.heap.size w w' := by
 have F : Hid (Below w.heap.size w (w.alloc (.cells T 46)) ∧ Bk (w.alloc (.cells T 46)) w.heap.size 46 t.cells.toArray) := ⟨bt_new w _, by rw [← hT]; exact Bk.new w 46 T⟩
 have H40 : Hid (∀ W (k : Int), Below w.heap.size w W → Calls Tryz.prog 40 #[.agg t.cells.toArray, .slice A n c, .int .i64 k] W fun x w' => x = .returned (.agg (atAll t l k).cells.toArray) ∧ Below W.heap.size W w') := fun W k hb => refAt_any t ht _ rfl l A n c hn hle hok k W (hl.below hb)
 have Hi := Lib.hid (info46s t.cells.toArray.size (Tms.size36 t ht))
 have Hok2 : Hid (∀ k, (atAll t l k).ok) := fun k => atAll_ok l t k ht
 clear hT ht hn hl hok
 go_enter Tryz.func55, Tryz.ntmps55
 go_upto_region 3 with fail
 generalize (w.alloc (.cells T 46)) = W0 at F ⊢
 go_loopw [9, 10] (fun s i wr => ∃ k : Nat, k ≤ N ∧ i = .int .i64 k ∧ s = .int .i64 (playedA t l name k) ∧ Below w.heap.size w wr ∧ Bk wr w.heap.size 46 t.cells.toArray) (fun _ i _ => N - (intOf i).toNat)
 case atStart => exact ⟨0, Nat.zero_le _, rfl, rfl, F.out.1, F.out.2⟩
 case round =>
  clear F
  obtain ⟨k, hk, rfl, rfl, hb, hbk⟩ := hrel
  have F1 := Lib.hid (And.intro hb hbk)
  clear hb hbk
  have hpl := playedA_le t l name k
  have Hs := Lib.hid (playedA_succ t l name k)
  by_cases hkN : k < N
  ·
   have q1 : (k : Int) < (N : Int) := by omega
   have H40k := Lib.hid (H40.out wr k F1.out.1)
   have hok3 := Hok2.out k
   obtain ⟨T2, hT2⟩ : ∃ T2, T2 = atAll t l k := ⟨_, rfl⟩
   rw [← hT2] at H40k hok3 Hs
   clear hT2
   have HS : Hid (T2.cells.toArray.size = 36) := Tms.size36 T2 hok3
   have Hone := Lib.hid (Tms.oneCell T2)
   have Hi2 := Lib.hid (info46s T2.cells.toArray.size (Tms.size36 T2 hok3))
   have H0 : Hid (∀ W, Calls Tryz.prog 33 #[.agg T2.l0.cells.toArray, .string name] W fun x w' => x = .returned (.int .i64 (idxF (fun y => decide (y = name)) T2.l0.b + 1)) ∧ Below W.heap.size W w') := fun W => refSlot_any T2.l0 hok3.1 _ rfl name W
   have H1 : Hid (∀ W, Calls Tryz.prog 33 #[.agg T2.l1.cells.toArray, .string name] W fun x w' => x = .returned (.int .i64 (idxF (fun y => decide (y = name)) T2.l1.b + 1)) ∧ Below W.heap.size W w') := fun W => refSlot_any T2.l1 hok3.2 _ rfl name W
   have hg0 := idx_gt T2.l0.b name
   have hg1 := idx_gt T2.l1.b name
   have Hr0 : Hid (∀ W g, Bk W g 46 T2.cells.toArray → W.rangeAt g 0 T2.l0.cells) := fun W g h => tms_range0 h
   have Hr1 : Hid (∀ W g, Bk W g 46 T2.cells.toArray → W.rangeAt g 18 T2.l1.cells) := fun W g h => tms_range1 hok3 h
   have Hz0 := Lib.hid (size25D T2.l0 hok3.1)
   have Hz1 := Lib.hid (size25D T2.l1 hok3.2)
   generalize idxF (fun y => decide (y = name)) T2.l0.b + 1 = r0 at H0 hg0
   generalize idxF (fun y => decide (y = name)) T2.l1.b + 1 = r1 at H1 hg1
   rw [← hg0, ← hg1] at Hs
   clear hg0 hg1 hok3 H40
   generalize T2.l0.cells = c0 at H0 Hr0 Hz0
   generalize T2.l1.cells = c1 at H1 Hr1 Hz1
   generalize T2.cells = tc2 at H40k HS Hone Hi2 Hr0 Hr1
   have w1 : IntKind.i64.wrap ((playedA t l name k : Int) + 1) = ((playedA t l name k + 1 : Nat) : Int) := by rw [IntWalk.i64_in _ (by omega)]; omega
   obtain ⟨pk1, hpk1⟩ : ∃ pk1, pk1 = playedA t l name (k + 1) := ⟨_, rfl⟩
   rw [← hpk1] at Hs
   have Hpk1 := Lib.hid hpk1; clear hpk1
   generalize playedA t l name k = pk at Hs w1 hpl ⊢
   go_upto_region 6 with (first
    | (refine wpList_load_row rfl 46 _ rfl w.heap.size rfl 46 t.cells.toArray (0, 0) _ F1.out.2 Tryz.underlying46 rfl Hi.out ?_)
    | (go_at_call 40; refine H40k.out.mono ?_; rintro e w2 ⟨rfl, hb2⟩)
    | (refine wpList_store_mid rfl 46 (.tmp 11) (.tmp 20) rfl w2.heap.size 0 tc2.toArray rfl rfl ((Bk.new w2 46 #[.string { data := #[] }, .string { data := #[] }, .string { data := #[] }, .string { data := #[] }, .string { data := #[] }, .string { data := #[] }, .string { data := #[] }, .string { data := #[] }, .string { data := #[] }, .int .i64 0, .int .i64 0, .int .i64 0, .int .i64 0, .int .i64 0, .int .i64 0, .int .i64 0, .int .i64 0, .int .i64 0, .string { data := #[] }, .string { data := #[] }, .string { data := #[] }, .string { data := #[] }, .string { data := #[] }, .string { data := #[] }, .string { data := #[] }, .string { data := #[] }, .string { data := #[] }, .int .i64 0, .int .i64 0, .int .i64 0, .int .i64 0, .int .i64 0, .int .i64 0, .int .i64 0, .int .i64 0, .int .i64 0]).there tc2.toArray.size (by rw [HS.out]; decide)) Hi2.out Hone.out ?_))
   have hge : w.heap.size < w2.heap.size := Nat.lt_of_lt_of_le F1.out.2.lt hb2.size
   have F2 : Hid (Below w.heap.size w ((w2.alloc (.cells #[.string { data := #[] }, .string { data := #[] }, .string { data := #[] }, .string { data := #[] }, .string { data := #[] }, .string { data := #[] }, .string { data := #[] }, .string { data := #[] }, .string { data := #[] }, .int .i64 0, .int .i64 0, .int .i64 0, .int .i64 0, .int .i64 0, .int .i64 0, .int .i64 0, .int .i64 0, .int .i64 0, .string { data := #[] }, .string { data := #[] }, .string { data := #[] }, .string { data := #[] }, .string { data := #[] }, .string { data := #[] }, .string { data := #[] }, .string { data := #[] }, .string { data := #[] }, .int .i64 0, .int .i64 0, .int .i64 0, .int .i64 0, .int .i64 0, .int .i64 0, .int .i64 0, .int .i64 0, .int .i64 0] 46)).setCells w2.heap.size 0 tc2) ∧ Bk ((w2.alloc (.cells #[.string { data := #[] }, .string { data := #[] }, .string { data := #[] }, .string { data := #[] }, .string { data := #[] }, .string { data := #[] }, .string { data := #[] }, .string { data := #[] }, .string { data := #[] }, .int .i64 0, .int .i64 0, .int .i64 0, .int .i64 0, .int .i64 0, .int .i64 0, .int .i64 0, .int .i64 0, .int .i64 0, .string { data := #[] }, .string { data := #[] }, .string { data := #[] }, .string { data := #[] }, .string { data := #[] }, .string { data := #[] }, .string { data := #[] }, .string { data := #[] }, .string { data := #[] }, .int .i64 0, .int .i64 0, .int .i64 0, .int .i64 0, .int .i64 0, .int .i64 0, .int .i64 0, .int .i64 0, .int .i64 0] 46)).setCells w2.heap.size 0 tc2) w.heap.size 46 t.cells.toArray ∧ Bk ((w2.alloc (.cells #[.string { data := #[] }, .string { data := #[] }, .string { data := #[] }, .string { data := #[] }, .string { data := #[] }, .string { data := #[] }, .string { data := #[] }, .string { data := #[] }, .string { data := #[] }, .int .i64 0, .int .i64 0, .int .i64 0, .int .i64 0, .int .i64 0, .int .i64 0, .int .i64 0, .int .i64 0, .int .i64 0, .string { data := #[] }, .string { data := #[] }, .string { data := #[] }, .string { data := #[] }, .string { data := #[] }, .string { data := #[] }, .string { data := #[] }, .string { data := #[] }, .string { data := #[] }, .int .i64 0, .int .i64 0, .int .i64 0, .int .i64 0, .int .i64 0, .int .i64 0, .int .i64 0, .int .i64 0, .int .i64 0] 46)).setCells w2.heap.size 0 tc2) w2.heap.size 46 tc2.toArray) := by
    refine ⟨below_sets (by omega) (bt_alloc (bt_trans F1.out.1 hb2) _) _ _, Bk.setsFar (by omega) _ _ ((F1.out.2.below hb2 F1.out.2.lt).alloc _), ?_⟩
    have := (Bk.new w2 46 #[.string { data := #[] }, .string { data := #[] }, .string { data := #[] }, .string { data := #[] }, .string { data := #[] }, .string { data := #[] }, .string { data := #[] }, .string { data := #[] }, .string { data := #[] }, .int .i64 0, .int .i64 0, .int .i64 0, .int .i64 0, .int .i64 0, .int .i64 0, .int .i64 0, .int .i64 0, .int .i64 0, .string { data := #[] }, .string { data := #[] }, .string { data := #[] }, .string { data := #[] }, .string { data := #[] }, .string { data := #[] }, .string { data := #[] }, .string { data := #[] }, .string { data := #[] }, .int .i64 0, .int .i64 0, .int .i64 0, .int .i64 0, .int .i64 0, .int .i64 0, .int .i64 0, .int .i64 0, .int .i64 0]).fill tc2.toArray (by rw [HS.out]; rfl)
    simpa using this
   clear F1 hb2 hge H40k HS Hone Hi2
   generalize ((w2.alloc (.cells #[.string { data := #[] }, .string { data := #[] }, .string { data := #[] }, .string { data := #[] }, .string { data := #[] }, .string { data := #[] }, .string { data := #[] }, .string { data := #[] }, .string { data := #[] }, .int .i64 0, .int .i64 0, .int .i64 0, .int .i64 0, .int .i64 0, .int .i64 0, .int .i64 0, .int .i64 0, .int .i64 0, .string { data := #[] }, .string { data := #[] }, .string { data := #[] }, .string { data := #[] }, .string { data := #[] }, .string { data := #[] }, .string { data := #[] }, .string { data := #[] }, .string { data := #[] }, .int .i64 0, .int .i64 0, .int .i64 0, .int .i64 0, .int .i64 0, .int .i64 0, .int .i64 0, .int .i64 0, .int .i64 0] 46)).setCells w2.heap.size 0 tc2) = W1 at F2 ⊢
   generalize w2.heap.size = g at F2 ⊢
   have hr0 := Hr0.out W1 g F2.out.2.2
   by_cases h0 : 0 < r0
   ·
    have he : Hid (pk1 = pk + 1) := by show _ = _; rw [Hs.out, decide_eq_true h0]; rfl
    clear Hs H1 Hr1 Hz1
    go_wp2_with (first
     | (refine wpList_load_cells rfl 25 _ rfl g 0 rfl c0 (fun j hj => by rw [List.getElem?_eq_getElem hj]; exact hr0 j _ (List.getElem?_eq_getElem hj)) _ Tryz.underlying25 rfl Hz0.out ?_)
     | (go_at_call 33; with_reducible refine (H0.out _).mono ?_; rintro e w3 ⟨rfl, hb3⟩))
    have F3 : Hid (Below w.heap.size w w3 ∧ Bk w3 w.heap.size 46 t.cells.toArray) := ⟨bt_trans F2.out.1 hb3, F2.out.2.1.below hb3 F2.out.2.1.lt⟩
    clear F2 hb3 hr0
    go_roundw
    case rel => exact ⟨k + 1, by omega, by go_num, by (rw [← Hpk1.out, he.out]) <;> (first | rfl | simp), F3.out.1, F3.out.2⟩
    case measure => simp [intOf]; omega
   ·
    have d0 : decide (0 < r0) = false := decide_eq_false h0
    by_cases h1 : 0 < r1
    ·
     have he : Hid (pk1 = pk + 1) := by show _ = _; rw [Hs.out, decide_eq_true h1]; simp
     clear Hs
     go_wp2_with (first
      | (refine wpList_load_cells rfl 25 _ rfl g 0 rfl c0 (fun j hj => by rw [List.getElem?_eq_getElem hj]; exact hr0 j _ (List.getElem?_eq_getElem hj)) _ Tryz.underlying25 rfl Hz0.out ?_)
      | (go_at_call 33; with_reducible refine (H0.out _).mono ?_; rintro e w3 ⟨rfl, hb3⟩; have hr1 := Hr1.out _ _ (F2.out.2.2.below hb3 F2.out.2.2.lt))
      | (refine wpList_load_cells_g 25 _ rfl g 18 rfl c1 (fun j hj => by rw [List.getElem?_eq_getElem hj]; exact hr1 j _ (List.getElem?_eq_getElem hj)) _ Tryz.underlying25 rfl Hz1.out rfl ?_)
      | (go_at_call 33; with_reducible refine (H1.out _).mono ?_; rintro e w4 ⟨rfl, hb4⟩))
     have F3 : Hid (Below w.heap.size w w4 ∧ Bk w4 w.heap.size 46 t.cells.toArray) := ⟨bt_trans (bt_trans F2.out.1 hb3) hb4, (F2.out.2.1.below hb3 F2.out.2.1.lt).below hb4 (F2.out.2.1.below hb3 F2.out.2.1.lt).lt⟩
     clear F2 hb3 hb4 hr0 hr1
     go_roundw
     case rel => exact ⟨k + 1, by omega, by go_num, by (rw [← Hpk1.out, he.out]) <;> (first | rfl | simp), F3.out.1, F3.out.2⟩
     case measure => simp [intOf]; omega
    ·
     have d1 : decide (0 < r1) = false := decide_eq_false h1
     have he : Hid (pk1 = pk) := by show _ = _; rw [Hs.out, d0, d1]; simp
     clear Hs
     go_wp2_with (first
      | (refine wpList_load_cells rfl 25 _ rfl g 0 rfl c0 (fun j hj => by rw [List.getElem?_eq_getElem hj]; exact hr0 j _ (List.getElem?_eq_getElem hj)) _ Tryz.underlying25 rfl Hz0.out ?_)
      | (go_at_call 33; with_reducible refine (H0.out _).mono ?_; rintro e w3 ⟨rfl, hb3⟩; have hr1 := Hr1.out _ _ (F2.out.2.2.below hb3 F2.out.2.2.lt))
      | (refine wpList_load_cells_g 25 _ rfl g 18 rfl c1 (fun j hj => by rw [List.getElem?_eq_getElem hj]; exact hr1 j _ (List.getElem?_eq_getElem hj)) _ Tryz.underlying25 rfl Hz1.out rfl ?_)
      | (go_at_call 33; with_reducible refine (H1.out _).mono ?_; rintro e w4 ⟨rfl, hb4⟩))
     have F3 : Hid (Below w.heap.size w w4 ∧ Bk w4 w.heap.size 46 t.cells.toArray) := ⟨bt_trans (bt_trans F2.out.1 hb3) hb4, (F2.out.2.1.below hb3 F2.out.2.1.lt).below hb4 (F2.out.2.1.below hb3 F2.out.2.1.lt).lt⟩
     clear F2 hb3 hb4 hr0 hr1
     go_roundw
     case rel => exact ⟨k + 1, by omega, by go_num, by (rw [← Hpk1.out, he.out]) <;> (first | rfl | simp), F3.out.1, F3.out.2⟩
     case measure => simp [intOf]; omega
  ·
   obtain rfl : k = N := by omega
   go_wp2
   go_ret
   exact ⟨rfl, F1.out.1⟩
end Go.Proofs.YtmagppkclnebjaaGreatDoor
