/- lineup.Names: the players of both sides. -/
import Derived.Test.YtmagppkclnebjaaGreatDoorA20
import Derived.Test.YtmagppkclnebjaaGreatDoorA13
import Derived.Test.YtmagppkclnebjaaGreatDoorQs
import Derived.Deep.AppendLies
set_option linter.unusedVariables false
set_option linter.unusedSimpArgs false
set_option linter.unusedSimpArgs false
namespace Go.Proofs.YtmagppkclnebjaaGreatDoor
open Go.RowKit
open L

def L.namesR (t : Tms) (l : List Chg) (side : Int) : List Str := if checkChanges t l ≠ 0 then [] else namesL t l side
theorem namesL_nil (t : Tms) (side : Int) : namesL t [] side = (t.get side).b := rfl
theorem namesL_snoc (t : Tms) (l : List Chg) (d : Chg) (side : Int) : namesL t (l ++ [d]) side = if d.side = side then addName (namesL t l side) d.name else namesL t l side := by
 simp [namesL, List.foldl_append]
theorem namesF_len (side : Int) : ∀ (l : List Chg) (out : List Str), (l.foldl (fun out c => if c.side = side then addName out c.name else out) out).length ≤ out.length + l.length
 | [], out => by simp
 | d :: r, out => by
  rw [List.foldl_cons]
  refine Nat.le_trans (namesF_len side r _) ?_
  simp only [List.length_cons]
  split
  ·
   unfold addName; split
   ·
    omega
   ·
    simp; omega
  ·
   omega
theorem namesL_len (t : Tms) (ht : t.ok) (l : List Chg) (side : Int) : (namesL t l side).length ≤ 9 + l.length := by
 have := namesF_len side l (t.get side).b
 rw [(Tms.get_ok t ht side).1] at this
 exact this
theorem info75 : (Tryz.prog.info? 75).map (·.size) = some 2 := by kernel_rfl
def nmk (t : Tms) (side : Int) (b : Bool) : List Str := if b then (t.get side).b else []
theorem slice_own {v : Value} {W : World} {base n : Nat} {xs : List Value} (h : W.ownsRow base 9 1 v n xs) : ∃ A c, v = .slice A n c := by
 rcases h.2 with ⟨rfl, rfl⟩ | ⟨g, cap, cur, rfl, _⟩
 ·
  exact ⟨_, _, rfl⟩
 ·
  exact ⟨_, _, rfl⟩
theorem rd_own {W : World} {base n c : Nat} {A : Option Addr} {xs : List Value} (h : W.ownsRow base 9 1 (.slice A n c) n xs) : Rd W A xs := by
 obtain ⟨_, A', c', e, hr⟩ := SlK.of_own h
 cases e
 exact hr

def own_all (W : World) (base : Nat) (v0 v1 : Value) (o0 o1 : List Str) : Prop := W.ownsRow base 9 1 v0 o0.length (o0.map .string) ∧ W.ownsRow base 9 1 v1 o1.length (o1.map .string) ∧ ∀ r, v0.ownBlock = some r → v1.ownBlock ≠ some r
theorem rd_cells {W : World} {g : Nat} {xs : List Value} (h : Rd W (some ⟨g, 0, none⟩) xs) : ∀ j u, xs[j]? = some u → W.cell? ⟨g, 0 + j, none⟩ = some u := fun j u hu => by
 have hj := (List.getElem?_eq_some_iff.1 hu).1
 rcases h with rfl | ⟨b, off, e, hc⟩
 ·
  simp at hj
 ·
  cases e
  rw [hc j hj, hu]

theorem grown_set (w : World) (p : Addr) (v : Value) : w.grownBy (w.setCell p v) (some p.block) :=
 ⟨rfl, rfl, rfl, by simp, fun i _ hne => Below.heap_setCell w p v i (fun e => hne (by rw [e]))⟩
theorem namesL_take (t : Tms) (l : List Chg) (k : Nat) (hk : k < l.length) (side : Int) : namesL t (l.take (k + 1)) side = if (l.getD k ⟨0, 0, 0, .empty, 0⟩).side = side then addName (namesL t (l.take k) side) (l.getD k ⟨0, 0, 0, .empty, 0⟩).name else namesL t (l.take k) side := by
 rw [List.take_succ_eq_append_getElem hk, namesL_snoc]
 simp [List.getD, List.getElem?_eq_getElem hk]
theorem below_grown (w : World) (g : Nat) (v0 v1 : Value) : w.grownBy ((w.setCell ⟨g, 0, none⟩ v0).setCell ⟨g, 1, none⟩ v1) (some g) := by
 have h1 := grown_set w ⟨g, 0, none⟩ v0
 have h2 := grown_set (w.setCell ⟨g, 0, none⟩ v0) ⟨g, 1, none⟩ v1
 exact ⟨rfl, rfl, rfl, Nat.le_trans h1.size h2.size, fun i hi hne => (h2.block i (Nat.lt_of_lt_of_le hi h1.size) hne).trans (h1.block i hi hne)⟩
theorem own_base {w : World} {base base' : Nat} {e : TypeId} {size n : Nat} {v : Value} {xs : List Value} (h : w.ownsRow base e size v n xs) (hb : base' ≤ base) : w.ownsRow base' e size v n xs := by
 refine ⟨h.1, ?_⟩
 rcases h.2 with h2 | ⟨g, cap, cur, hv, hbg, hr⟩
 ·
  exact .inl h2
 ·
  exact .inr ⟨g, cap, cur, hv, Nat.le_trans hb hbg, hr⟩

set_option maxHeartbeats 8000000 in
set_option maxRecDepth 100000 in
theorem names_any (t : Tms) (ht : t.ok) (T : Array Value) (hT : T = t.cells.toArray) (l : List Chg) (A : Option Addr) (n c : Nat) (hn : l.length = n) (w : World) (hl : RdC w A l) :
 Calls Tryz.prog 36 #[.agg T, .slice A n c] w fun x w' => (∃ v0 v1, x = .returned (.tuple #[.agg #[v0, v1], .int .i64 (checkChanges t l)]) ∧ SlK 1 w' v0 (namesR t l 0).length ((namesR t l 0).map .string) ∧ SlK 1 w' v1 (namesR t l 1).length ((namesR t l 1).map .string)) ∧ Below w.heap.size w w' := by
 obtain ⟨i0, hi, hz0, hz1, hz2⟩ := info_parts infoS
 have F : Hid (Below w.heap.size w ((w.alloc (.cells T 54)).alloc (.cells #[.slice none 0 0, .slice none 0 0] 75)) ∧ Bk ((w.alloc (.cells T 54)).alloc (.cells #[.slice none 0 0, .slice none 0 0] 75)) w.heap.size 54 t.cells.toArray ∧ Bk ((w.alloc (.cells T 54)).alloc (.cells #[.slice none 0 0, .slice none 0 0] 75)) (w.heap.size + 1) 75 #[.slice none 0 0, .slice none 0 0]) := by
  refine ⟨bt_alloc (bt_new w _) _, by rw [← hT]; exact (Bk.new w 54 T).alloc _, ?_⟩
  have := Bk.new (w.alloc (.cells T 54)) 75 #[.slice none 0 0, .slice none 0 0]
  rwa [World.size_alloc] at this
 have Ht := Lib.hid ht; have Hn := Lib.hid hn; have Hl := Lib.hid hl
 have Hi := Lib.hid (info54s t.cells.toArray.size (Tms.size36 t ht))
 clear ht hn hl hT
 have hcc : ∀ W, Below w.heap.size w W → Calls Tryz.prog 61 #[.agg t.cells.toArray, .slice A n c] W fun x w' => x = .returned (.int .i64 (checkChanges t l)) ∧ Below W.heap.size W w' := fun W hW =>
  checkChanges_pre t Ht.out _ rfl l A n c Hn.out W (Hl.out.below hW)
 have Hcc := Lib.hid hcc; clear hcc
 go_enter Tryz.func36, Tryz.ntmps36
 go_upto_region 1 with fail
 generalize ((w.alloc (.cells T 54)).alloc (.cells #[.slice none 0 0, .slice none 0 0] 75)) = W0 at F ⊢
 go_upto_region 2 with (first
  | (refine wpList_load_row rfl 54 _ rfl w.heap.size rfl 54 t.cells.toArray (0, 0) _ F.out.2.1 Tryz.underlying54 rfl Hi.out ?_)
  | (go_at_call 61; refine (Hcc.out _ F.out.1).mono ?_; rintro e w1 ⟨rfl, hb1⟩))
 have F1 : Hid (Below w.heap.size w w1 ∧ Bk w1 w.heap.size 54 t.cells.toArray ∧ Bk w1 (w.heap.size + 1) 75 #[.slice none 0 0, .slice none 0 0]) :=
  ⟨bt_trans F.out.1 hb1, F.out.2.1.below hb1 F.out.2.1.lt, F.out.2.2.below hb1 F.out.2.2.lt⟩
 clear F hb1
 by_cases hE : checkChanges t l = 0
 ·
  have hz : (checkChanges t l != 0) = false := by simpa using hE
  have HE := Lib.hid hE
  have Hok := Lib.hid (okS_all hE)
  have h64 := (cc_parts hE).2.1
  have hn1 : n ≤ 64 := by have := Hn.out; omega
  clear hE h64
  have hr : ∀ side, namesR t l side = namesL t l side := fun side => by unfold namesR; rw [if_neg (by rw [HE.out]; simp)]
  have Hr := Lib.hid hr; clear hr
  go_upto_region 5 with fail
  have F2 : Hid (Below w.heap.size w (w1.alloc (.cells #[.slice none 0 0, .slice none 0 0] 75)) ∧ Bk (w1.alloc (.cells #[.slice none 0 0, .slice none 0 0] 75)) w.heap.size 54 t.cells.toArray ∧ Bk (w1.alloc (.cells #[.slice none 0 0, .slice none 0 0] 75)) (w.heap.size + 1) 75 #[.slice none 0 0, .slice none 0 0] ∧ Bk (w1.alloc (.cells #[.slice none 0 0, .slice none 0 0] 75)) w1.heap.size 75 #[.slice none 0 0, .slice none 0 0] ∧ w.heap.size + 1 < w1.heap.size) :=
   ⟨bt_alloc F1.out.1 _, F1.out.2.1.alloc _, F1.out.2.2.alloc _, Bk.new w1 75 _, F1.out.2.2.lt⟩
  clear F1
  generalize (w1.alloc (.cells #[.slice none 0 0, .slice none 0 0] 75)) = W2 at F2 ⊢
  generalize w1.heap.size = g7 at F2 ⊢
  go_upto_region 6 with (refine wpList_load_row rfl 54 _ rfl w.heap.size rfl 54 t.cells.toArray (0, 0) _ F2.out.2.1 Tryz.underlying54 rfl Hi.out ?_)
  have hn75 : Hid (t.l0.b.length = 9 ∧ t.l1.b.length = 9) := ⟨Ht.out.1.1, Ht.out.2.1⟩
  have Hg7 : Hid (w.heap.size + 1 < g7) := F2.out.2.2.2.2
  go_loopw [20] (fun i wr => ∃ (k : Nat) (v0 v1 : Value), k ≤ 2 ∧ i = .int .i64 k ∧ Below w.heap.size w wr ∧ Bk wr w.heap.size 54 t.cells.toArray ∧ Bk wr (w.heap.size + 1) 75 #[.slice none 0 0, .slice none 0 0] ∧ Bk wr g7 75 #[v0, v1] ∧
   wr.ownsRow (g7 + 1) 9 1 v0 (nmk t 0 (decide (0 < k))).length ((nmk t 0 (decide (0 < k))).map .string) ∧ wr.ownsRow (g7 + 1) 9 1 v1 (nmk t 1 (decide (1 < k))).length ((nmk t 1 (decide (1 < k))).map .string) ∧ (∀ r, v0.ownBlock = some r → v1.ownBlock ≠ some r)) (fun i _ => 2 - (intOf i).toNat)
  case atStart => exact ⟨0, _, _, by omega, rfl, F2.out.1, F2.out.2.1, F2.out.2.2.1, F2.out.2.2.2.1, World.ownsRow_nil _ _ _ _, World.ownsRow_nil _ _ _ _, fun r h => by cases h⟩
  case round =>
   obtain ⟨k, v0, v1, hk, rfl, hb, hbk, hbr, hb7, ho0, ho1, hdj⟩ := hrel
   have Hb := Lib.hid hb; have Hbk := Lib.hid hbk; have Hbr := Lib.hid hbr; have Hb7 := Lib.hid hb7
   have Ho : Hid (own_all wr (g7 + 1) v0 v1 (nmk t 0 (decide (0 < k))) (nmk t 1 (decide (1 < k)))) := ⟨ho0, ho1, hdj⟩
   clear F2 hb hbk hbr hb7 ho0 ho1 hdj
   have hk3 : k = 0 ∨ k = 1 ∨ k = 2 := by omega
   rcases hk3 with rfl | rfl | rfl
   ·
    skip
    have hX := Tms.get_ok t Ht.out 0
    have e0 : ((0 : Nat) : Int) = 0 := rfl
    rw [e0]
    have hix : ∀ W, (Instr.index 54 (.agg t.cells.toArray) (.int .i64 0)).run Tryz.prog W = .ok (.agg (t.get 0).cells.toArray) W := fun W => run_index54 W t Ht.out 0 (by omega)
    generalize hXe : t.get 0 = X at hix hX
    have HX := Lib.hid hX; have HXe := Lib.hid hXe; clear hX hXe
    have Hth := Lib.hid (store33_there wr X HX.out); have Hone := Lib.hid (LU.oneCell X); have Hi33 := Lib.hid (LU.info33 X HX.out)
    go_upto_region 8 with (first
     | (refine wp_store_mid 33 (.tmp 9) (.tmp 23) rfl wr.heap.size 0 X.cells.toArray rfl rfl Hth.out Hi33.out Hone.out ?_)
     | (refine wpList_store_mid rfl 33 (.tmp 9) (.tmp 23) rfl wr.heap.size 0 X.cells.toArray rfl rfl Hth.out Hi33.out Hone.out ?_))
    have hbl := bts_below (bt_new wr (.cells #[.string { data := #[] }, .string { data := #[] }, .string { data := #[] }, .string { data := #[] }, .string { data := #[] }, .string { data := #[] }, .string { data := #[] }, .string { data := #[] }, .string { data := #[] }, .int .i64 0, .int .i64 0, .int .i64 0, .int .i64 0, .int .i64 0, .int .i64 0, .int .i64 0, .int .i64 0, .int .i64 0] 33)) X.cells.toArray.toList 0
    have F5 : Hid (Below w.heap.size w ((wr.alloc (.cells #[.string { data := #[] }, .string { data := #[] }, .string { data := #[] }, .string { data := #[] }, .string { data := #[] }, .string { data := #[] }, .string { data := #[] }, .string { data := #[] }, .string { data := #[] }, .int .i64 0, .int .i64 0, .int .i64 0, .int .i64 0, .int .i64 0, .int .i64 0, .int .i64 0, .int .i64 0, .int .i64 0] 33)).setCells wr.heap.size 0 X.cells.toArray.toList) ∧ Bk ((wr.alloc (.cells #[.string { data := #[] }, .string { data := #[] }, .string { data := #[] }, .string { data := #[] }, .string { data := #[] }, .string { data := #[] }, .string { data := #[] }, .string { data := #[] }, .string { data := #[] }, .int .i64 0, .int .i64 0, .int .i64 0, .int .i64 0, .int .i64 0, .int .i64 0, .int .i64 0, .int .i64 0, .int .i64 0] 33)).setCells wr.heap.size 0 X.cells.toArray.toList) w.heap.size 54 t.cells.toArray ∧ Bk ((wr.alloc (.cells #[.string { data := #[] }, .string { data := #[] }, .string { data := #[] }, .string { data := #[] }, .string { data := #[] }, .string { data := #[] }, .string { data := #[] }, .string { data := #[] }, .string { data := #[] }, .int .i64 0, .int .i64 0, .int .i64 0, .int .i64 0, .int .i64 0, .int .i64 0, .int .i64 0, .int .i64 0, .int .i64 0] 33)).setCells wr.heap.size 0 X.cells.toArray.toList) (w.heap.size + 1) 75 #[.slice none 0 0, .slice none 0 0] ∧ Bk ((wr.alloc (.cells #[.string { data := #[] }, .string { data := #[] }, .string { data := #[] }, .string { data := #[] }, .string { data := #[] }, .string { data := #[] }, .string { data := #[] }, .string { data := #[] }, .string { data := #[] }, .int .i64 0, .int .i64 0, .int .i64 0, .int .i64 0, .int .i64 0, .int .i64 0, .int .i64 0, .int .i64 0, .int .i64 0] 33)).setCells wr.heap.size 0 X.cells.toArray.toList) g7 75 #[v0, v1] ∧ Rd ((wr.alloc (.cells #[.string { data := #[] }, .string { data := #[] }, .string { data := #[] }, .string { data := #[] }, .string { data := #[] }, .string { data := #[] }, .string { data := #[] }, .string { data := #[] }, .string { data := #[] }, .int .i64 0, .int .i64 0, .int .i64 0, .int .i64 0, .int .i64 0, .int .i64 0, .int .i64 0, .int .i64 0, .int .i64 0] 33)).setCells wr.heap.size 0 X.cells.toArray.toList) (some ⟨wr.heap.size, 0, none⟩) (X.b.map .string) ∧ own_all ((wr.alloc (.cells #[.string { data := #[] }, .string { data := #[] }, .string { data := #[] }, .string { data := #[] }, .string { data := #[] }, .string { data := #[] }, .string { data := #[] }, .string { data := #[] }, .string { data := #[] }, .int .i64 0, .int .i64 0, .int .i64 0, .int .i64 0, .int .i64 0, .int .i64 0, .int .i64 0, .int .i64 0, .int .i64 0] 33)).setCells wr.heap.size 0 X.cells.toArray.toList) (g7 + 1) v0 v1 (nmk t 0 (decide (0 < 0))) (nmk t 1 (decide (1 < 0)))) :=
     ⟨bt_trans Hb.out hbl, Hbk.out.below hbl Hbk.out.lt, Hbr.out.below hbl Hbr.out.lt, Hb7.out.below hbl Hb7.out.lt, Rd.lu_rangeB (store33_range wr X HX.out), own_below Ho.out.1 hbl, own_below Ho.out.2.1 hbl, Ho.out.2.2⟩
    clear Hth Hb Hbk Hbr Hb7 Ho hbl
    generalize ((wr.alloc (.cells #[.string { data := #[] }, .string { data := #[] }, .string { data := #[] }, .string { data := #[] }, .string { data := #[] }, .string { data := #[] }, .string { data := #[] }, .string { data := #[] }, .string { data := #[] }, .int .i64 0, .int .i64 0, .int .i64 0, .int .i64 0, .int .i64 0, .int .i64 0, .int .i64 0, .int .i64 0, .int .i64 0] 33)).setCells wr.heap.size 0 X.cells.toArray.toList) = W5 at F5 ⊢
    generalize wr.heap.size = gx at F5 ⊢
    have hsl : ∀ W, (Instr.sliceAt 22 (.pointer (some ⟨gx, 0, none⟩)) none none none).run Tryz.prog W = .ok (.slice (some ⟨gx, 0, none⟩) 9 9) W := fun W =>
     run_slice_arr_all W 22 9 9 _ Tryz.underlying22 size9
    have hcl := Tryz.slices_Clone i0 (.string { data := #[] }) 1 16 hi hz0 hz1 hz2 rfl (by decide) size9 gx 0 9 9 (X.b.map .string) W5 (by simp [HX.out.1]) (by unfold maxLen; omega) (by omega) (rd_cells F5.out.2.2.2.2.1) (strs_oneCell X.b)
    have Hcl := Lib.hid hcl; clear hcl
    go_upto_region 9 with (go_at_call 92; refine Hcl.out.mono ?_; rintro e w6 ⟨v', rfl, hown, hnn, hb6⟩; obtain ⟨A6, c6, rfl⟩ := slice_own hown; have q0 : w6.cell? ⟨g7, 0, none⟩ = some v0 := by { rw [(F5.out.2.2.2.1.below hb6 F5.out.2.2.2.1.lt).cell]; rfl }; have q1 : w6.cell? ⟨g7, 1, none⟩ = some v1 := by { rw [(F5.out.2.2.2.1.below hb6 F5.out.2.2.2.1.lt).cell]; rfl }; have q2 : w6.frozen? ⟨g7, 0, none⟩ = false := (F5.out.2.2.2.1.below hb6 F5.out.2.2.2.1.lt).frozen _; have q3 : w6.frozen? ⟨g7, 1, none⟩ = false := (F5.out.2.2.2.1.below hb6 F5.out.2.2.2.1.lt).frozen _)
    have hb7' : Bk w6 g7 75 #[v0, v1] := F5.out.2.2.2.1.below hb6 F5.out.2.2.2.1.lt
    have hg7 : g7 < w6.heap.size := hb7'.lt
    have hg5 : g7 < W5.heap.size := F5.out.2.2.2.1.lt
    have hww := F5.out.1.size
    have hbr' := F5.out.2.2.1.lt
    have hgs : w6.grownBy (w6.setCell ⟨g7, 0, none⟩ (.slice A6 9 c6)) (some g7) := grown_set _ _ _
    have hne : w.heap.size + 1 < g7 := Hg7.out
    go_wp2
    go_roundw
    case rel =>
     refine ⟨1, _, v1, by omega, by go_num, (bt_trans F5.out.1 hb6).grown hgs (bt_trans F5.out.1 hb6).size (fun q hq => by have := Option.some.inj hq; omega), (F5.out.2.1.below hb6 F5.out.2.1.lt).far (p := ⟨g7, 0, none⟩) (show w.heap.size ≠ g7 by omega) _, (F5.out.2.2.1.below hb6 F5.out.2.2.1.lt).far (p := ⟨g7, 0, none⟩) (show w.heap.size + 1 ≠ g7 by omega) _, hb7'.set_ 0 _, ?_, ?_, ?_⟩
     ·
      rw [show nmk t 0 (decide (0 < 1)) = X.b from by rw [← HXe.out]; rfl, HX.out.1]
      exact (own_base hown (by omega)).kept hgs (.inr (fun e => by have := (hown.lt _ e).1; omega))
     ·
      exact (own_below F5.out.2.2.2.2.2.2.1 hb6).kept hgs (.inr (fun e => by have := (F5.out.2.2.2.2.2.2.1.lt _ e).1; omega))
     ·
      intro r h1 h2
      have := (hown.lt _ h1).1; have := (F5.out.2.2.2.2.2.2.1.lt _ h2).2; omega
    case measure => simp [intOf]
   ·
    skip
    have hX := Tms.get_ok t Ht.out 1
    have e0 : ((1 : Nat) : Int) = 1 := rfl
    rw [e0]
    have hix : ∀ W, (Instr.index 54 (.agg t.cells.toArray) (.int .i64 1)).run Tryz.prog W = .ok (.agg (t.get 1).cells.toArray) W := fun W => run_index54 W t Ht.out 1 (by omega)
    generalize hXe : t.get 1 = X at hix hX
    have HX := Lib.hid hX; have HXe := Lib.hid hXe; clear hX hXe
    have Hth := Lib.hid (store33_there wr X HX.out); have Hone := Lib.hid (LU.oneCell X); have Hi33 := Lib.hid (LU.info33 X HX.out)
    go_upto_region 8 with (first
     | (refine wp_store_mid 33 (.tmp 9) (.tmp 23) rfl wr.heap.size 0 X.cells.toArray rfl rfl Hth.out Hi33.out Hone.out ?_)
     | (refine wpList_store_mid rfl 33 (.tmp 9) (.tmp 23) rfl wr.heap.size 0 X.cells.toArray rfl rfl Hth.out Hi33.out Hone.out ?_))
    have hbl := bts_below (bt_new wr (.cells #[.string { data := #[] }, .string { data := #[] }, .string { data := #[] }, .string { data := #[] }, .string { data := #[] }, .string { data := #[] }, .string { data := #[] }, .string { data := #[] }, .string { data := #[] }, .int .i64 0, .int .i64 0, .int .i64 0, .int .i64 0, .int .i64 0, .int .i64 0, .int .i64 0, .int .i64 0, .int .i64 0] 33)) X.cells.toArray.toList 0
    have F5 : Hid (Below w.heap.size w ((wr.alloc (.cells #[.string { data := #[] }, .string { data := #[] }, .string { data := #[] }, .string { data := #[] }, .string { data := #[] }, .string { data := #[] }, .string { data := #[] }, .string { data := #[] }, .string { data := #[] }, .int .i64 0, .int .i64 0, .int .i64 0, .int .i64 0, .int .i64 0, .int .i64 0, .int .i64 0, .int .i64 0, .int .i64 0] 33)).setCells wr.heap.size 0 X.cells.toArray.toList) ∧ Bk ((wr.alloc (.cells #[.string { data := #[] }, .string { data := #[] }, .string { data := #[] }, .string { data := #[] }, .string { data := #[] }, .string { data := #[] }, .string { data := #[] }, .string { data := #[] }, .string { data := #[] }, .int .i64 0, .int .i64 0, .int .i64 0, .int .i64 0, .int .i64 0, .int .i64 0, .int .i64 0, .int .i64 0, .int .i64 0] 33)).setCells wr.heap.size 0 X.cells.toArray.toList) w.heap.size 54 t.cells.toArray ∧ Bk ((wr.alloc (.cells #[.string { data := #[] }, .string { data := #[] }, .string { data := #[] }, .string { data := #[] }, .string { data := #[] }, .string { data := #[] }, .string { data := #[] }, .string { data := #[] }, .string { data := #[] }, .int .i64 0, .int .i64 0, .int .i64 0, .int .i64 0, .int .i64 0, .int .i64 0, .int .i64 0, .int .i64 0, .int .i64 0] 33)).setCells wr.heap.size 0 X.cells.toArray.toList) (w.heap.size + 1) 75 #[.slice none 0 0, .slice none 0 0] ∧ Bk ((wr.alloc (.cells #[.string { data := #[] }, .string { data := #[] }, .string { data := #[] }, .string { data := #[] }, .string { data := #[] }, .string { data := #[] }, .string { data := #[] }, .string { data := #[] }, .string { data := #[] }, .int .i64 0, .int .i64 0, .int .i64 0, .int .i64 0, .int .i64 0, .int .i64 0, .int .i64 0, .int .i64 0, .int .i64 0] 33)).setCells wr.heap.size 0 X.cells.toArray.toList) g7 75 #[v0, v1] ∧ Rd ((wr.alloc (.cells #[.string { data := #[] }, .string { data := #[] }, .string { data := #[] }, .string { data := #[] }, .string { data := #[] }, .string { data := #[] }, .string { data := #[] }, .string { data := #[] }, .string { data := #[] }, .int .i64 0, .int .i64 0, .int .i64 0, .int .i64 0, .int .i64 0, .int .i64 0, .int .i64 0, .int .i64 0, .int .i64 0] 33)).setCells wr.heap.size 0 X.cells.toArray.toList) (some ⟨wr.heap.size, 0, none⟩) (X.b.map .string) ∧ own_all ((wr.alloc (.cells #[.string { data := #[] }, .string { data := #[] }, .string { data := #[] }, .string { data := #[] }, .string { data := #[] }, .string { data := #[] }, .string { data := #[] }, .string { data := #[] }, .string { data := #[] }, .int .i64 0, .int .i64 0, .int .i64 0, .int .i64 0, .int .i64 0, .int .i64 0, .int .i64 0, .int .i64 0, .int .i64 0] 33)).setCells wr.heap.size 0 X.cells.toArray.toList) (g7 + 1) v0 v1 (nmk t 0 (decide (0 < 1))) (nmk t 1 (decide (1 < 1)))) :=
     ⟨bt_trans Hb.out hbl, Hbk.out.below hbl Hbk.out.lt, Hbr.out.below hbl Hbr.out.lt, Hb7.out.below hbl Hb7.out.lt, Rd.lu_rangeB (store33_range wr X HX.out), own_below Ho.out.1 hbl, own_below Ho.out.2.1 hbl, Ho.out.2.2⟩
    clear Hth Hb Hbk Hbr Hb7 Ho hbl
    generalize ((wr.alloc (.cells #[.string { data := #[] }, .string { data := #[] }, .string { data := #[] }, .string { data := #[] }, .string { data := #[] }, .string { data := #[] }, .string { data := #[] }, .string { data := #[] }, .string { data := #[] }, .int .i64 0, .int .i64 0, .int .i64 0, .int .i64 0, .int .i64 0, .int .i64 0, .int .i64 0, .int .i64 0, .int .i64 0] 33)).setCells wr.heap.size 0 X.cells.toArray.toList) = W5 at F5 ⊢
    generalize wr.heap.size = gx at F5 ⊢
    have hsl : ∀ W, (Instr.sliceAt 22 (.pointer (some ⟨gx, 0, none⟩)) none none none).run Tryz.prog W = .ok (.slice (some ⟨gx, 0, none⟩) 9 9) W := fun W =>
     run_slice_arr_all W 22 9 9 _ Tryz.underlying22 size9
    have hcl := Tryz.slices_Clone i0 (.string { data := #[] }) 1 16 hi hz0 hz1 hz2 rfl (by decide) size9 gx 0 9 9 (X.b.map .string) W5 (by simp [HX.out.1]) (by unfold maxLen; omega) (by omega) (rd_cells F5.out.2.2.2.2.1) (strs_oneCell X.b)
    have Hcl := Lib.hid hcl; clear hcl
    go_upto_region 9 with (go_at_call 92; refine Hcl.out.mono ?_; rintro e w6 ⟨v', rfl, hown, hnn, hb6⟩; obtain ⟨A6, c6, rfl⟩ := slice_own hown; have q0 : w6.cell? ⟨g7, 0, none⟩ = some v0 := by { rw [(F5.out.2.2.2.1.below hb6 F5.out.2.2.2.1.lt).cell]; rfl }; have q1 : w6.cell? ⟨g7, 1, none⟩ = some v1 := by { rw [(F5.out.2.2.2.1.below hb6 F5.out.2.2.2.1.lt).cell]; rfl }; have q2 : w6.frozen? ⟨g7, 0, none⟩ = false := (F5.out.2.2.2.1.below hb6 F5.out.2.2.2.1.lt).frozen _; have q3 : w6.frozen? ⟨g7, 1, none⟩ = false := (F5.out.2.2.2.1.below hb6 F5.out.2.2.2.1.lt).frozen _)
    have hb7' : Bk w6 g7 75 #[v0, v1] := F5.out.2.2.2.1.below hb6 F5.out.2.2.2.1.lt
    have hg7 : g7 < w6.heap.size := hb7'.lt
    have hg5 : g7 < W5.heap.size := F5.out.2.2.2.1.lt
    have hww := F5.out.1.size
    have hbr' := F5.out.2.2.1.lt
    have hgs : w6.grownBy (w6.setCell ⟨g7, 1, none⟩ (.slice A6 9 c6)) (some g7) := grown_set _ _ _
    have hne : w.heap.size + 1 < g7 := Hg7.out
    go_wp2
    go_roundw
    case rel =>
     refine ⟨2, v0, _, by omega, by go_num, (bt_trans F5.out.1 hb6).grown hgs (bt_trans F5.out.1 hb6).size (fun q hq => by have := Option.some.inj hq; omega), (F5.out.2.1.below hb6 F5.out.2.1.lt).far (p := ⟨g7, 1, none⟩) (show w.heap.size ≠ g7 by omega) _, (F5.out.2.2.1.below hb6 F5.out.2.2.1.lt).far (p := ⟨g7, 1, none⟩) (show w.heap.size + 1 ≠ g7 by omega) _, hb7'.set_ 1 _, ?_, ?_, ?_⟩
     ·
      exact (own_below F5.out.2.2.2.2.2.1 hb6).kept hgs (.inr (fun e => by have := (F5.out.2.2.2.2.2.1.lt _ e).1; omega))
     ·
      rw [show nmk t 1 (decide (1 < 2)) = X.b from by rw [← HXe.out]; rfl, HX.out.1]
      exact (own_base hown (by omega)).kept hgs (.inr (fun e => by have := (hown.lt _ e).1; omega))
     ·
      intro r h1 h2
      have := (hown.lt _ h2).1; have := (F5.out.2.2.2.2.2.1.lt _ h1).2; omega
    case measure => simp [intOf]
   ·
    have e0 : ((2 : Nat) : Int) = 2 := rfl
    rw [e0]
    obtain ⟨W3, hW3⟩ : ∃ W3 : World, W3 = wr := ⟨_, rfl⟩
    rw [← hW3] at Hb Hbk Hbr Hb7 Ho ⊢
    clear hW3
    rw [show nmk t 0 (decide (0 < 2)) = namesL t (l.take 0) 0 from rfl, show nmk t 1 (decide (1 < 2)) = namesL t (l.take 0) 1 from rfl] at Ho
    have Hlen : Hid (∀ side : Int, ∀ k : Nat, (namesL t (l.take k) side).length ≤ 9 + k) := fun side k => Nat.le_trans (namesL_len t Ht.out _ side) (by simp; omega)
    go_upto_region 11 with fail
    go_loopw [32] (fun i wr => ∃ (k : Nat) (v0 v1 : Value), k ≤ n ∧ i = .int .i64 k ∧ Below w.heap.size w wr ∧ Bk wr (w.heap.size + 1) 75 #[.slice none 0 0, .slice none 0 0] ∧ Bk wr g7 75 #[v0, v1] ∧ own_all wr (g7 + 1) v0 v1 (namesL t (l.take k) 0) (namesL t (l.take k) 1)) (fun i _ => n - (intOf i).toNat)
    case atStart => exact ⟨0, v0, v1, by omega, rfl, Hb.out, Hbr.out, Hb7.out, Ho.out⟩
    case round =>
     clear Hb Hbk Hbr Hb7 Ho v0 v1
     obtain ⟨k, v0, v1, hk, rfl, hb, hbr, hb7, ho⟩ := hrel
     have Hb := Lib.hid hb; have Hbr := Lib.hid hbr; have Hb7 := Lib.hid hb7; have Ho := Lib.hid ho
     clear hb hbr hb7 ho
     by_cases hkn : k < n
     ·
      obtain ⟨b, off, rfl, hc⟩ := Hl.out k (by rw [Hn.out]; exact hkn)
      have hb0 : b < w.heap.size := World.block_lt_of_cell? w ⟨b, off + k * 5 + 0, none⟩ (u := .int .i64 (l.getD k ⟨0, 0, 0, .empty, 0⟩).side) (by rw [hc 0 (by omega)]; rfl)
      have hcell : ∀ j, j < 5 → wr.cell? ⟨b, off + k * 5 + j, none⟩ = (l.getD k ⟨0, 0, 0, .empty, 0⟩).val[j]? := fun j hj => by
       rw [Hb.out.cell (p := ⟨b, off + k * 5 + j, none⟩) hb0]; exact hc j hj
      have hnt := fun side => namesL_take t l k (by rw [Hn.out]; exact hkn) side
      have hdo : (l.getD k ⟨0, 0, 0, .empty, 0⟩).okS := Hok.out _ (by
       have hkl : k < l.length := by rw [Hn.out]; exact hkn
       simp [List.getD, List.getElem?_eq_getElem hkl])
      generalize hd : l.getD k ⟨0, 0, 0, .empty, 0⟩ = d at hcell hnt hdo
      obtain ⟨ds, dp, dl, dn, dx⟩ := d
      have hnt0 := hnt 0; have hnt1 := hnt 1
      have hl0 := Hlen.out 0 k; have hl1 := Hlen.out 1 k
      generalize namesL t (l.take k) 0 = L0 at hnt0 hl0 Ho
      generalize namesL t (l.take k) 1 = L1 at hnt1 hl1 Ho
      have Hnt0 := Lib.hid hnt0; have Hnt1 := Lib.hid hnt1; clear hnt0 hnt1; have hs01 : ds = 0 ∨ ds = 1 := hdo.1; clear hd hnt hc hdo
      have c0 : wr.cell? ⟨b, off + k * 5, none⟩ = some (.int .i64 ds) := hcell 0 (by omega)
      have c1 : wr.cell? ⟨b, off + k * 5 + 1, none⟩ = some (.int .i64 dp) := hcell 1 (by omega)
      have c2 : wr.cell? ⟨b, off + k * 5 + 2, none⟩ = some (.int .i64 dl) := hcell 2 (by omega)
      have c3 : wr.cell? ⟨b, off + k * 5 + 3, none⟩ = some (.string dn) := hcell 3 (by omega)
      have c4 : wr.cell? ⟨b, off + k * 5 + 4, none⟩ = some (.int .i64 dx) := hcell 4 (by omega)
      clear hcell
      go_upto_region 13 with fail
      have F0 : Hid (Below w.heap.size w (wr.alloc (.cells #[.int .i64 ds, .int .i64 dp, .int .i64 dl, .string dn, .int .i64 dx] 142)) ∧ Bk (wr.alloc (.cells #[.int .i64 ds, .int .i64 dp, .int .i64 dl, .string dn, .int .i64 dx] 142)) (w.heap.size + 1) 75 #[.slice none 0 0, .slice none 0 0] ∧ Bk (wr.alloc (.cells #[.int .i64 ds, .int .i64 dp, .int .i64 dl, .string dn, .int .i64 dx] 142)) g7 75 #[v0, v1] ∧ Bk (wr.alloc (.cells #[.int .i64 ds, .int .i64 dp, .int .i64 dl, .string dn, .int .i64 dx] 142)) wr.heap.size 142 #[.int .i64 ds, .int .i64 dp, .int .i64 dl, .string dn, .int .i64 dx] ∧ own_all (wr.alloc (.cells #[.int .i64 ds, .int .i64 dp, .int .i64 dl, .string dn, .int .i64 dx] 142)) (g7 + 1) v0 v1 L0 L1) :=
       ⟨bt_alloc Hb.out _, Hbr.out.alloc _, Hb7.out.alloc _, Bk.new wr 142 #[.int .i64 ds, .int .i64 dp, .int .i64 dl, .string dn, .int .i64 dx], Ho.out.1.alloc _, Ho.out.2.1.alloc _, Ho.out.2.2⟩
      have hg7b := Hb7.out.lt
      have hne0 : Hid (∀ r, v0.ownBlock = some r → r < wr.heap.size) := fun r e => (Ho.out.1.lt _ e).2
      have hne1 : Hid (∀ r, v1.ownBlock = some r → r < wr.heap.size) := fun r e => (Ho.out.2.1.lt _ e).2
      clear c0 c1 c2 c3 c4 Hb Hbr Hb7 Ho
      generalize (wr.alloc (.cells #[.int .i64 ds, .int .i64 dp, .int .i64 dl, .string dn, .int .i64 dx] 142)) = W0 at F0 ⊢
      generalize wr.heap.size = bx at F0 hg7b hne0 hne1 ⊢
      rcases hs01 with rfl | rfl
      ·
       have HV := Lib.hid (slice_own F0.out.2.2.2.2.1)
       obtain ⟨AV, cV, rfl⟩ := HV.out
       clear HV
       have hrd : Rd W0 AV (L0.map .string) := rd_own F0.out.2.2.2.2.1
       have x0 : W0.cell? ⟨bx, 0, none⟩ = some (.int .i64 0) := by rw [F0.out.2.2.2.1.cell]; rfl
       have x3 : W0.cell? ⟨bx, 3, none⟩ = some (.string dn) := by rw [F0.out.2.2.2.1.cell]; rfl
       have y0 : W0.cell? ⟨g7, 0, none⟩ = some (.slice AV L0.length cV) := by rw [F0.out.2.2.1.cell]; rfl
       refine wp_region_held_drew (S := fun W => W.cell? ⟨bx, 0, none⟩ = some (.int .i64 0) ∧ W.cell? ⟨bx, 3, none⟩ = some (.string dn) ∧ W.cell? ⟨g7, 0, none⟩ = some (.slice AV L0.length cV) ∧ Rd W AV (L0.map .string)) (by kernel_rfl) (⟨x0, x3, y0, hrd⟩) (fun hHeld => ?_)
       refine tkE (i := 0) rfl ?_
       refine tkE (i := 1) rfl ?_
       refine tkE (i := 2) rfl ?_
       refine tkE (i := 3) rfl ?_
       refine tkE (i := 4) rfl ?_
       refine tkE (i := 5) rfl ?_
       refine rdE (i := 6) rfl (fun K hK => ?_)
       go_simp
       (go_at_call 93; refine (containsS_any _ _ _ _ _ _ rfl (by omega) hHeld.2.2.2).mono ?_; rintro e w' ⟨rfl, rfl⟩)
       go_wp2_with fail
       refine onE hK (hHeld) (fun hHeld => ?_)
       clear hK K
       refine tkE (i := 7) rfl ?_
       refine wpAnyH_done (by kernel_rfl) ?_ _
       have F1 : Hid (Below w.heap.size w W0.drew ∧ Bk W0.drew (w.heap.size + 1) 75 #[.slice none 0 0, .slice none 0 0] ∧ Bk W0.drew g7 75 #[.slice AV L0.length cV, v1] ∧ Bk W0.drew bx 142 #[.int .i64 0, .int .i64 dp, .int .i64 dl, .string dn, .int .i64 dx] ∧ own_all W0.drew (g7 + 1) (.slice AV L0.length cV) v1 L0 L1) :=
        ⟨bt_drew F0.out.1, F0.out.2.1.drew, F0.out.2.2.1.drew, F0.out.2.2.2.1.drew, F0.out.2.2.2.2⟩
       clear F0 x0 x3 y0 hrd hHeld
       generalize W0.drew = W1 at F1 ⊢
       by_cases hm : dn ∈ L0
       ·
        have hdec : decide (dn ∈ L0) = true := decide_eq_true hm
        rw [hdec]
        clear hdec
        have hm1 : namesL t (l.take (k + 1)) 0 = L0 := by rw [Hnt0.out]; simp [addName, hm]
        have hm2 : namesL t (l.take (k + 1)) 1 = L1 := by rw [Hnt1.out]; simp
        have Hm1 := Lib.hid hm1; have Hm2 := Lib.hid hm2
        clear hm hm1 hm2
        go_wp2
        go_roundw
        case rel => exact ⟨k + 1, _, _, by omega, by go_num, F1.out.1, F1.out.2.1, F1.out.2.2.1, by rw [Hm1.out, Hm2.out]; exact F1.out.2.2.2.2⟩
        case measure => simp [intOf]; omega
       ·
        have hdec : decide (dn ∈ L0) = false := decide_eq_false hm
        rw [hdec]
        clear hdec
        have hm1 : namesL t (l.take (k + 1)) 0 = L0 ++ [dn] := by rw [Hnt0.out]; simp [addName, hm]
        have hm2 : namesL t (l.take (k + 1)) 1 = L1 := by rw [Hnt1.out]; simp
        have Hm1 := Lib.hid hm1; have Hm2 := Lib.hid hm2
        clear hm hm1 hm2
        go_upto_region 14 with fail
        have hS : ∀ W : World, Bk W bx 142 #[.int .i64 0, .int .i64 dp, .int .i64 dl, .string dn, .int .i64 dx] → (W.cell? ⟨bx, 0, none⟩ = some (.int .i64 0) ∧ W.cell? ⟨bx, 3, none⟩ = some (.string dn)) := fun W h2 => ⟨by rw [h2.cell]; rfl, by rw [h2.cell]; rfl⟩
        have F2 : Hid (Below w.heap.size w (W1.alloc (.cells #[.string dn] 9)).drew ∧ Bk (W1.alloc (.cells #[.string dn] 9)).drew (w.heap.size + 1) 75 #[.slice none 0 0, .slice none 0 0] ∧ Bk (W1.alloc (.cells #[.string dn] 9)).drew g7 75 #[.slice AV L0.length cV, v1] ∧ Bk (W1.alloc (.cells #[.string dn] 9)).drew bx 142 #[.int .i64 0, .int .i64 dp, .int .i64 dl, .string dn, .int .i64 dx] ∧ own_all (W1.alloc (.cells #[.string dn] 9)).drew (g7 + 1) (.slice AV L0.length cV) v1 L0 L1 ∧ bx < (W1.alloc (.cells #[.string dn] 9)).drew.heap.size) :=
         ⟨bt_drew (bt_alloc F1.out.1 _), (F1.out.2.1.alloc _).drew, (F1.out.2.2.1.alloc _).drew, (F1.out.2.2.2.1.alloc _).drew, ⟨F1.out.2.2.2.2.1.alloc _, F1.out.2.2.2.2.2.1.alloc _, F1.out.2.2.2.2.2.2⟩, (F1.out.2.2.2.1.alloc _).drew.lt⟩
        have hww := F2.out.1.size
        have hbx := F2.out.2.2.2.2.2
        have hwg : w.heap.size + 1 < g7 := Hg7.out
        have hrow : ∀ r, (Value.slice AV L0.length cV).ownBlock = some r → g7 + 1 ≤ r ∧ r < bx := fun r e => ⟨(F2.out.2.2.2.2.1.1.lt _ e).1, hne0.out r e⟩
        have hw5 : ∀ (w5 : World) (g : Nat), (W1.alloc (.cells #[.string dn] 9)).drew.grownBy w5 (Value.slice AV L0.length cV).ownBlock → ((Value.slice AV L0.length cV).ownBlock = some g ∨ g = (W1.alloc (.cells #[.string dn] 9)).drew.heap.size) →
         (Below w.heap.size w w5 ∧ Bk w5 (w.heap.size + 1) 75 #[.slice none 0 0, .slice none 0 0] ∧ Bk w5 g7 75 #[.slice AV L0.length cV, v1] ∧ Bk w5 bx 142 #[.int .i64 0, .int .i64 dp, .int .i64 dl, .string dn, .int .i64 dx] ∧ w5.ownsRow (g7 + 1) 9 1 v1 L1.length (L1.map .string) ∧ ∀ r, some g = some r → v1.ownBlock ≠ some r) := fun w5 g hgrow hat =>
         ⟨F2.out.1.grown hgrow hww (fun r e => by have := (hrow r e).1; omega), (hgrow.block _ (by omega) (fun e => by have := (hrow _ e.symm).1; omega)).trans F2.out.2.1, (hgrow.block _ (by omega) (fun e => by have := (hrow _ e.symm).1; omega)).trans F2.out.2.2.1, (hgrow.block _ (by omega) (fun e => by have := (hrow _ e.symm).2; omega)).trans F2.out.2.2.2.1,
          F2.out.2.2.2.2.1.2.1.kept hgrow (by cases hv : v1.ownBlock with | none => exact .inl rfl | some r => exact .inr (fun e => F2.out.2.2.2.2.1.2.2 r e.symm hv)),
          fun r hr h2 => by
           cases hr
           rcases hat with hg' | hg'
           ·
            exact F2.out.2.2.2.2.1.2.2 _ hg' h2
           ·
            have := hne1.out _ h2; omega⟩
        have Hw5 := Lib.hid hw5; clear hw5
        have p0 : W1.drew.cell? ⟨g7, 0, none⟩ = some (.slice AV L0.length cV) := by rw [F1.out.2.2.1.drew.cell]; rfl
        have p1 : (W1.alloc (.cells #[.string dn] 9)).drew.cell? ⟨g7, 0, none⟩ = some (.slice AV L0.length cV) := by rw [F2.out.2.2.1.cell]; rfl
        refine wp_region_held_drew (S := fun W => W.cell? ⟨bx, 0, none⟩ = some (.int .i64 0) ∧ W.cell? ⟨bx, 3, none⟩ = some (.string dn)) (by kernel_rfl) (hS _ F1.out.2.2.2.1.drew) (fun hHeld => ?_)
        refine tkE (i := 0) rfl ?_
        refine tkE (i := 1) rfl ?_
        refine tkE (i := 2) rfl ?_
        refine tkE (i := 3) rfl ?_
        refine tkE (i := 4) rfl ?_
        refine tkE (i := 6) rfl ?_
        refine tkE (i := 7) rfl ?_
        refine rdE2 (i := 5) (j := 8) rfl rfl (fun K hK => ?_) (fun K hK => ?_)
        ·
         go_simp
         refine onE hK hHeld (fun hHeld => ?_)
         clear hK K
         refine rdE (i := 8) rfl (fun K hK => ?_)
         go_simp
         refine onE hK (hS _ F2.out.2.2.2.1) (fun hHeld => ?_)
         clear hK K
         have hcs := cell_one_new W1 (.string dn) 9
         refine rdE (i := 9) rfl (fun K hK => ?_)
         refine step_append_lies _ rfl _ _ 26 rfl (g7 + 1) 9 i0 (.string { data := #[] }) 1 16 Tryz.underlying26 hi hz0 hz1 hz2 rfl (by decide) _ _ _ rfl (F2.out.2.2.2.2.1.1) ⟨W1.heap.size, 0, none⟩ 1 1 [.string dn] rfl rfl hcs (strs_oneCell [dn]) (by decide) (by unfold maxLen; omega) (by omega) (by have := F2.out.2.2.2.2.2; omega) _ rfl ?_
         intro g cap w5 hown' hgrow hat hlt
         have hF3 := Hw5.out w5 g hgrow hat
         refine onE hK (hS _ hF3.2.2.2.1) (fun hHeld => ?_)
         clear hK K
         refine tkE (i := 10) rfl ?_
         have q0 : w5.cell? ⟨g7, 0, none⟩ = some (.slice AV L0.length cV) := by rw [hF3.2.2.1.cell]; rfl
         have q1 : w5.frozen? ⟨g7, 0, none⟩ = false := hF3.2.2.1.frozen _
         refine rdE (i := 11) rfl (fun K hK => ?_)
         go_simp
         refine onE hK (hS _ (hF3.2.2.2.1.far (p := ⟨g7, 0, none⟩) (show bx ≠ g7 by omega) _)) (fun hHeld => ?_)
         clear hK K
         refine wpAnyH_done (by kernel_rfl) ?_ _
         have hlen1 : (L0 ++ [dn]).length = L0.length + 1 := by simp
         have hgs : w5.grownBy (w5.setCell ⟨g7, 0, none⟩ (.slice (some ⟨g, 0, none⟩) (L0.length + 1) cap)) (some g7) := grown_set _ _ _
         have how : (w5.setCell ⟨g7, 0, none⟩ (.slice (some ⟨g, 0, none⟩) (L0.length + 1) cap)).ownsRow (g7 + 1) 9 1 (.slice (some ⟨g, 0, none⟩) (L0.length + 1) cap) (L0 ++ [dn]).length ((L0 ++ [dn]).map .string) := by
          rw [hlen1]
          have h9 := World.ownsRow.kept hown' hgs (.inr (fun e => by have := (hown'.lt _ e).1; omega))
          simpa using h9
         have how2 := World.ownsRow.kept hF3.2.2.2.2.1 hgs (.inr (fun e => by have := (hF3.2.2.2.2.1.lt _ e).1; omega))
         have hnew : Bk (w5.setCell ⟨g7, 0, none⟩ (.slice (some ⟨g, 0, none⟩) (L0.length + 1) cap)) g7 75 #[.slice (some ⟨g, 0, none⟩) (L0.length + 1) cap, v1] := hF3.2.2.1.set_ 0 _
         have hfin : Hid (Below w.heap.size w (w5.setCell ⟨g7, 0, none⟩ (.slice (some ⟨g, 0, none⟩) (L0.length + 1) cap)) ∧ Bk (w5.setCell ⟨g7, 0, none⟩ (.slice (some ⟨g, 0, none⟩) (L0.length + 1) cap)) (w.heap.size + 1) 75 #[.slice none 0 0, .slice none 0 0] ∧ Bk (w5.setCell ⟨g7, 0, none⟩ (.slice (some ⟨g, 0, none⟩) (L0.length + 1) cap)) g7 75 #[.slice (some ⟨g, 0, none⟩) (L0.length + 1) cap, v1] ∧ own_all (w5.setCell ⟨g7, 0, none⟩ (.slice (some ⟨g, 0, none⟩) (L0.length + 1) cap)) (g7 + 1) (.slice (some ⟨g, 0, none⟩) (L0.length + 1) cap) v1 (L0 ++ [dn]) L1) :=
          ⟨below_sets (o := 0) (vs := [_]) (by omega) hF3.1, hF3.2.1.far (p := ⟨g7, 0, none⟩) (show w.heap.size + 1 ≠ g7 by omega) _, hnew, how, how2, fun r h1 h2 => hF3.2.2.2.2.2 r h1 h2⟩
         clear hgs how how2 hnew hF3 q0 q1 hHeld hcs hat hgrow hown' Hw5
         generalize (w5.setCell ⟨g7, 0, none⟩ (.slice (some ⟨g, 0, none⟩) (L0.length + 1) cap)) = W6 at hfin ⊢
         go_wp2
         go_roundw
         case rel => exact ⟨k + 1, _, _, by omega, by go_num, hfin.out.1, hfin.out.2.1, hfin.out.2.2.1, by rw [Hm1.out, Hm2.out]; exact hfin.out.2.2.2⟩
         case measure => simp [intOf]; omega
        ·
         go_simp
         refine onE hK (hS _ F2.out.2.2.2.1) (fun hHeld => ?_)
         clear hK K
         refine rdE (i := 5) rfl (fun K hK => ?_)
         go_simp
         refine onE hK (hHeld) (fun hHeld => ?_)
         clear hK K
         have hcs := cell_one_new W1 (.string dn) 9
         refine rdE (i := 9) rfl (fun K hK => ?_)
         refine step_append_lies _ rfl _ _ 26 rfl (g7 + 1) 9 i0 (.string { data := #[] }) 1 16 Tryz.underlying26 hi hz0 hz1 hz2 rfl (by decide) _ _ _ rfl (F2.out.2.2.2.2.1.1) ⟨W1.heap.size, 0, none⟩ 1 1 [.string dn] rfl rfl hcs (strs_oneCell [dn]) (by decide) (by unfold maxLen; omega) (by omega) (by have := F2.out.2.2.2.2.2; omega) _ rfl ?_
         intro g cap w5 hown' hgrow hat hlt
         have hF3 := Hw5.out w5 g hgrow hat
         refine onE hK (hS _ hF3.2.2.2.1) (fun hHeld => ?_)
         clear hK K
         refine tkE (i := 10) rfl ?_
         have q0 : w5.cell? ⟨g7, 0, none⟩ = some (.slice AV L0.length cV) := by rw [hF3.2.2.1.cell]; rfl
         have q1 : w5.frozen? ⟨g7, 0, none⟩ = false := hF3.2.2.1.frozen _
         refine rdE (i := 11) rfl (fun K hK => ?_)
         go_simp
         refine onE hK (hS _ (hF3.2.2.2.1.far (p := ⟨g7, 0, none⟩) (show bx ≠ g7 by omega) _)) (fun hHeld => ?_)
         clear hK K
         refine wpAnyH_done (by kernel_rfl) ?_ _
         have hlen1 : (L0 ++ [dn]).length = L0.length + 1 := by simp
         have hgs : w5.grownBy (w5.setCell ⟨g7, 0, none⟩ (.slice (some ⟨g, 0, none⟩) (L0.length + 1) cap)) (some g7) := grown_set _ _ _
         have how : (w5.setCell ⟨g7, 0, none⟩ (.slice (some ⟨g, 0, none⟩) (L0.length + 1) cap)).ownsRow (g7 + 1) 9 1 (.slice (some ⟨g, 0, none⟩) (L0.length + 1) cap) (L0 ++ [dn]).length ((L0 ++ [dn]).map .string) := by
          rw [hlen1]
          have h9 := World.ownsRow.kept hown' hgs (.inr (fun e => by have := (hown'.lt _ e).1; omega))
          simpa using h9
         have how2 := World.ownsRow.kept hF3.2.2.2.2.1 hgs (.inr (fun e => by have := (hF3.2.2.2.2.1.lt _ e).1; omega))
         have hnew : Bk (w5.setCell ⟨g7, 0, none⟩ (.slice (some ⟨g, 0, none⟩) (L0.length + 1) cap)) g7 75 #[.slice (some ⟨g, 0, none⟩) (L0.length + 1) cap, v1] := hF3.2.2.1.set_ 0 _
         have hfin : Hid (Below w.heap.size w (w5.setCell ⟨g7, 0, none⟩ (.slice (some ⟨g, 0, none⟩) (L0.length + 1) cap)) ∧ Bk (w5.setCell ⟨g7, 0, none⟩ (.slice (some ⟨g, 0, none⟩) (L0.length + 1) cap)) (w.heap.size + 1) 75 #[.slice none 0 0, .slice none 0 0] ∧ Bk (w5.setCell ⟨g7, 0, none⟩ (.slice (some ⟨g, 0, none⟩) (L0.length + 1) cap)) g7 75 #[.slice (some ⟨g, 0, none⟩) (L0.length + 1) cap, v1] ∧ own_all (w5.setCell ⟨g7, 0, none⟩ (.slice (some ⟨g, 0, none⟩) (L0.length + 1) cap)) (g7 + 1) (.slice (some ⟨g, 0, none⟩) (L0.length + 1) cap) v1 (L0 ++ [dn]) L1) :=
          ⟨below_sets (o := 0) (vs := [_]) (by omega) hF3.1, hF3.2.1.far (p := ⟨g7, 0, none⟩) (show w.heap.size + 1 ≠ g7 by omega) _, hnew, how, how2, fun r h1 h2 => hF3.2.2.2.2.2 r h1 h2⟩
         clear hgs how how2 hnew hF3 q0 q1 hHeld hcs hat hgrow hown' Hw5
         generalize (w5.setCell ⟨g7, 0, none⟩ (.slice (some ⟨g, 0, none⟩) (L0.length + 1) cap)) = W6 at hfin ⊢
         go_wp2
         go_roundw
         case rel => exact ⟨k + 1, _, _, by omega, by go_num, hfin.out.1, hfin.out.2.1, hfin.out.2.2.1, by rw [Hm1.out, Hm2.out]; exact hfin.out.2.2.2⟩
         case measure => simp [intOf]; omega
      ·
       have HV := Lib.hid (slice_own F0.out.2.2.2.2.2.1)
       obtain ⟨AV, cV, rfl⟩ := HV.out
       clear HV
       have hrd : Rd W0 AV (L1.map .string) := rd_own F0.out.2.2.2.2.2.1
       have x0 : W0.cell? ⟨bx, 0, none⟩ = some (.int .i64 1) := by rw [F0.out.2.2.2.1.cell]; rfl
       have x3 : W0.cell? ⟨bx, 3, none⟩ = some (.string dn) := by rw [F0.out.2.2.2.1.cell]; rfl
       have y0 : W0.cell? ⟨g7, 1, none⟩ = some (.slice AV L1.length cV) := by rw [F0.out.2.2.1.cell]; rfl
       refine wp_region_held_drew (S := fun W => W.cell? ⟨bx, 0, none⟩ = some (.int .i64 1) ∧ W.cell? ⟨bx, 3, none⟩ = some (.string dn) ∧ W.cell? ⟨g7, 1, none⟩ = some (.slice AV L1.length cV) ∧ Rd W AV (L1.map .string)) (by kernel_rfl) (⟨x0, x3, y0, hrd⟩) (fun hHeld => ?_)
       refine tkE (i := 0) rfl ?_
       refine tkE (i := 1) rfl ?_
       refine tkE (i := 2) rfl ?_
       refine tkE (i := 3) rfl ?_
       refine tkE (i := 4) rfl ?_
       refine tkE (i := 5) rfl ?_
       refine rdE (i := 6) rfl (fun K hK => ?_)
       go_simp
       (go_at_call 93; refine (containsS_any _ _ _ _ _ _ rfl (by omega) hHeld.2.2.2).mono ?_; rintro e w' ⟨rfl, rfl⟩)
       go_wp2_with fail
       refine onE hK (hHeld) (fun hHeld => ?_)
       clear hK K
       refine tkE (i := 7) rfl ?_
       refine wpAnyH_done (by kernel_rfl) ?_ _
       have F1 : Hid (Below w.heap.size w W0.drew ∧ Bk W0.drew (w.heap.size + 1) 75 #[.slice none 0 0, .slice none 0 0] ∧ Bk W0.drew g7 75 #[v0, .slice AV L1.length cV] ∧ Bk W0.drew bx 142 #[.int .i64 1, .int .i64 dp, .int .i64 dl, .string dn, .int .i64 dx] ∧ own_all W0.drew (g7 + 1) v0 (.slice AV L1.length cV) L0 L1) :=
        ⟨bt_drew F0.out.1, F0.out.2.1.drew, F0.out.2.2.1.drew, F0.out.2.2.2.1.drew, F0.out.2.2.2.2⟩
       clear F0 x0 x3 y0 hrd hHeld
       generalize W0.drew = W1 at F1 ⊢
       by_cases hm : dn ∈ L1
       ·
        have hdec : decide (dn ∈ L1) = true := decide_eq_true hm
        rw [hdec]
        clear hdec
        have hm1 : namesL t (l.take (k + 1)) 1 = L1 := by rw [Hnt1.out]; simp [addName, hm]
        have hm2 : namesL t (l.take (k + 1)) 0 = L0 := by rw [Hnt0.out]; simp
        have Hm1 := Lib.hid hm1; have Hm2 := Lib.hid hm2
        clear hm hm1 hm2
        go_wp2
        go_roundw
        case rel => exact ⟨k + 1, _, _, by omega, by go_num, F1.out.1, F1.out.2.1, F1.out.2.2.1, by rw [Hm2.out, Hm1.out]; exact F1.out.2.2.2.2⟩
        case measure => simp [intOf]; omega
       ·
        have hdec : decide (dn ∈ L1) = false := decide_eq_false hm
        rw [hdec]
        clear hdec
        have hm1 : namesL t (l.take (k + 1)) 1 = L1 ++ [dn] := by rw [Hnt1.out]; simp [addName, hm]
        have hm2 : namesL t (l.take (k + 1)) 0 = L0 := by rw [Hnt0.out]; simp
        have Hm1 := Lib.hid hm1; have Hm2 := Lib.hid hm2
        clear hm hm1 hm2
        go_upto_region 14 with fail
        have hS : ∀ W : World, Bk W bx 142 #[.int .i64 1, .int .i64 dp, .int .i64 dl, .string dn, .int .i64 dx] → (W.cell? ⟨bx, 0, none⟩ = some (.int .i64 1) ∧ W.cell? ⟨bx, 3, none⟩ = some (.string dn)) := fun W h2 => ⟨by rw [h2.cell]; rfl, by rw [h2.cell]; rfl⟩
        have F2 : Hid (Below w.heap.size w (W1.alloc (.cells #[.string dn] 9)).drew ∧ Bk (W1.alloc (.cells #[.string dn] 9)).drew (w.heap.size + 1) 75 #[.slice none 0 0, .slice none 0 0] ∧ Bk (W1.alloc (.cells #[.string dn] 9)).drew g7 75 #[v0, .slice AV L1.length cV] ∧ Bk (W1.alloc (.cells #[.string dn] 9)).drew bx 142 #[.int .i64 1, .int .i64 dp, .int .i64 dl, .string dn, .int .i64 dx] ∧ own_all (W1.alloc (.cells #[.string dn] 9)).drew (g7 + 1) v0 (.slice AV L1.length cV) L0 L1 ∧ bx < (W1.alloc (.cells #[.string dn] 9)).drew.heap.size) :=
         ⟨bt_drew (bt_alloc F1.out.1 _), (F1.out.2.1.alloc _).drew, (F1.out.2.2.1.alloc _).drew, (F1.out.2.2.2.1.alloc _).drew, ⟨F1.out.2.2.2.2.1.alloc _, F1.out.2.2.2.2.2.1.alloc _, F1.out.2.2.2.2.2.2⟩, (F1.out.2.2.2.1.alloc _).drew.lt⟩
        have hww := F2.out.1.size
        have hbx := F2.out.2.2.2.2.2
        have hwg : w.heap.size + 1 < g7 := Hg7.out
        have hrow : ∀ r, (Value.slice AV L1.length cV).ownBlock = some r → g7 + 1 ≤ r ∧ r < bx := fun r e => ⟨(F2.out.2.2.2.2.1.2.1.lt _ e).1, hne1.out r e⟩
        have hw5 : ∀ (w5 : World) (g : Nat), (W1.alloc (.cells #[.string dn] 9)).drew.grownBy w5 (Value.slice AV L1.length cV).ownBlock → ((Value.slice AV L1.length cV).ownBlock = some g ∨ g = (W1.alloc (.cells #[.string dn] 9)).drew.heap.size) →
         (Below w.heap.size w w5 ∧ Bk w5 (w.heap.size + 1) 75 #[.slice none 0 0, .slice none 0 0] ∧ Bk w5 g7 75 #[v0, .slice AV L1.length cV] ∧ Bk w5 bx 142 #[.int .i64 1, .int .i64 dp, .int .i64 dl, .string dn, .int .i64 dx] ∧ w5.ownsRow (g7 + 1) 9 1 v0 L0.length (L0.map .string) ∧ ∀ r, some g = some r → v0.ownBlock ≠ some r) := fun w5 g hgrow hat =>
         ⟨F2.out.1.grown hgrow hww (fun r e => by have := (hrow r e).1; omega), (hgrow.block _ (by omega) (fun e => by have := (hrow _ e.symm).1; omega)).trans F2.out.2.1, (hgrow.block _ (by omega) (fun e => by have := (hrow _ e.symm).1; omega)).trans F2.out.2.2.1, (hgrow.block _ (by omega) (fun e => by have := (hrow _ e.symm).2; omega)).trans F2.out.2.2.2.1,
          F2.out.2.2.2.2.1.1.kept hgrow (by cases hv : v0.ownBlock with | none => exact .inl rfl | some r => exact .inr (fun e => F2.out.2.2.2.2.1.2.2 r hv e.symm)),
          fun r hr h2 => by
           cases hr
           rcases hat with hg' | hg'
           ·
            exact F2.out.2.2.2.2.1.2.2 _ h2 hg'
           ·
            have := hne0.out _ h2; omega⟩
        have Hw5 := Lib.hid hw5; clear hw5
        have p0 : W1.drew.cell? ⟨g7, 1, none⟩ = some (.slice AV L1.length cV) := by rw [F1.out.2.2.1.drew.cell]; rfl
        have p1 : (W1.alloc (.cells #[.string dn] 9)).drew.cell? ⟨g7, 1, none⟩ = some (.slice AV L1.length cV) := by rw [F2.out.2.2.1.cell]; rfl
        refine wp_region_held_drew (S := fun W => W.cell? ⟨bx, 0, none⟩ = some (.int .i64 1) ∧ W.cell? ⟨bx, 3, none⟩ = some (.string dn)) (by kernel_rfl) (hS _ F1.out.2.2.2.1.drew) (fun hHeld => ?_)
        refine tkE (i := 0) rfl ?_
        refine tkE (i := 1) rfl ?_
        refine tkE (i := 2) rfl ?_
        refine tkE (i := 3) rfl ?_
        refine tkE (i := 4) rfl ?_
        refine tkE (i := 6) rfl ?_
        refine tkE (i := 7) rfl ?_
        refine rdE2 (i := 5) (j := 8) rfl rfl (fun K hK => ?_) (fun K hK => ?_)
        ·
         go_simp
         refine onE hK hHeld (fun hHeld => ?_)
         clear hK K
         refine rdE (i := 8) rfl (fun K hK => ?_)
         go_simp
         refine onE hK (hS _ F2.out.2.2.2.1) (fun hHeld => ?_)
         clear hK K
         have hcs := cell_one_new W1 (.string dn) 9
         refine rdE (i := 9) rfl (fun K hK => ?_)
         refine step_append_lies _ rfl _ _ 26 rfl (g7 + 1) 9 i0 (.string { data := #[] }) 1 16 Tryz.underlying26 hi hz0 hz1 hz2 rfl (by decide) _ _ _ rfl (F2.out.2.2.2.2.1.2.1) ⟨W1.heap.size, 0, none⟩ 1 1 [.string dn] rfl rfl hcs (strs_oneCell [dn]) (by decide) (by unfold maxLen; omega) (by omega) (by have := F2.out.2.2.2.2.2; omega) _ rfl ?_
         intro g cap w5 hown' hgrow hat hlt
         have hF3 := Hw5.out w5 g hgrow hat
         refine onE hK (hS _ hF3.2.2.2.1) (fun hHeld => ?_)
         clear hK K
         refine tkE (i := 10) rfl ?_
         have q0 : w5.cell? ⟨g7, 1, none⟩ = some (.slice AV L1.length cV) := by rw [hF3.2.2.1.cell]; rfl
         have q1 : w5.frozen? ⟨g7, 1, none⟩ = false := hF3.2.2.1.frozen _
         refine rdE (i := 11) rfl (fun K hK => ?_)
         go_simp
         refine onE hK (hS _ (hF3.2.2.2.1.far (p := ⟨g7, 1, none⟩) (show bx ≠ g7 by omega) _)) (fun hHeld => ?_)
         clear hK K
         refine wpAnyH_done (by kernel_rfl) ?_ _
         have hlen1 : (L1 ++ [dn]).length = L1.length + 1 := by simp
         have hgs : w5.grownBy (w5.setCell ⟨g7, 1, none⟩ (.slice (some ⟨g, 0, none⟩) (L1.length + 1) cap)) (some g7) := grown_set _ _ _
         have how : (w5.setCell ⟨g7, 1, none⟩ (.slice (some ⟨g, 0, none⟩) (L1.length + 1) cap)).ownsRow (g7 + 1) 9 1 (.slice (some ⟨g, 0, none⟩) (L1.length + 1) cap) (L1 ++ [dn]).length ((L1 ++ [dn]).map .string) := by
          rw [hlen1]
          have h9 := World.ownsRow.kept hown' hgs (.inr (fun e => by have := (hown'.lt _ e).1; omega))
          simpa using h9
         have how2 := World.ownsRow.kept hF3.2.2.2.2.1 hgs (.inr (fun e => by have := (hF3.2.2.2.2.1.lt _ e).1; omega))
         have hnew : Bk (w5.setCell ⟨g7, 1, none⟩ (.slice (some ⟨g, 0, none⟩) (L1.length + 1) cap)) g7 75 #[v0, .slice (some ⟨g, 0, none⟩) (L1.length + 1) cap] := hF3.2.2.1.set_ 1 _
         have hfin : Hid (Below w.heap.size w (w5.setCell ⟨g7, 1, none⟩ (.slice (some ⟨g, 0, none⟩) (L1.length + 1) cap)) ∧ Bk (w5.setCell ⟨g7, 1, none⟩ (.slice (some ⟨g, 0, none⟩) (L1.length + 1) cap)) (w.heap.size + 1) 75 #[.slice none 0 0, .slice none 0 0] ∧ Bk (w5.setCell ⟨g7, 1, none⟩ (.slice (some ⟨g, 0, none⟩) (L1.length + 1) cap)) g7 75 #[v0, .slice (some ⟨g, 0, none⟩) (L1.length + 1) cap] ∧ own_all (w5.setCell ⟨g7, 1, none⟩ (.slice (some ⟨g, 0, none⟩) (L1.length + 1) cap)) (g7 + 1) v0 (.slice (some ⟨g, 0, none⟩) (L1.length + 1) cap) L0 (L1 ++ [dn])) :=
          ⟨below_sets (o := 1) (vs := [_]) (by omega) hF3.1, hF3.2.1.far (p := ⟨g7, 1, none⟩) (show w.heap.size + 1 ≠ g7 by omega) _, hnew, how2, how, fun r h1 h2 => hF3.2.2.2.2.2 r h2 h1⟩
         clear hgs how how2 hnew hF3 q0 q1 hHeld hcs hat hgrow hown' Hw5
         generalize (w5.setCell ⟨g7, 1, none⟩ (.slice (some ⟨g, 0, none⟩) (L1.length + 1) cap)) = W6 at hfin ⊢
         go_wp2
         go_roundw
         case rel => exact ⟨k + 1, _, _, by omega, by go_num, hfin.out.1, hfin.out.2.1, hfin.out.2.2.1, by rw [Hm1.out, Hm2.out]; exact hfin.out.2.2.2⟩
         case measure => simp [intOf]; omega
        ·
         go_simp
         refine onE hK (hS _ F2.out.2.2.2.1) (fun hHeld => ?_)
         clear hK K
         refine rdE (i := 5) rfl (fun K hK => ?_)
         go_simp
         refine onE hK (hHeld) (fun hHeld => ?_)
         clear hK K
         have hcs := cell_one_new W1 (.string dn) 9
         refine rdE (i := 9) rfl (fun K hK => ?_)
         refine step_append_lies _ rfl _ _ 26 rfl (g7 + 1) 9 i0 (.string { data := #[] }) 1 16 Tryz.underlying26 hi hz0 hz1 hz2 rfl (by decide) _ _ _ rfl (F2.out.2.2.2.2.1.2.1) ⟨W1.heap.size, 0, none⟩ 1 1 [.string dn] rfl rfl hcs (strs_oneCell [dn]) (by decide) (by unfold maxLen; omega) (by omega) (by have := F2.out.2.2.2.2.2; omega) _ rfl ?_
         intro g cap w5 hown' hgrow hat hlt
         have hF3 := Hw5.out w5 g hgrow hat
         refine onE hK (hS _ hF3.2.2.2.1) (fun hHeld => ?_)
         clear hK K
         refine tkE (i := 10) rfl ?_
         have q0 : w5.cell? ⟨g7, 1, none⟩ = some (.slice AV L1.length cV) := by rw [hF3.2.2.1.cell]; rfl
         have q1 : w5.frozen? ⟨g7, 1, none⟩ = false := hF3.2.2.1.frozen _
         refine rdE (i := 11) rfl (fun K hK => ?_)
         go_simp
         refine onE hK (hS _ (hF3.2.2.2.1.far (p := ⟨g7, 1, none⟩) (show bx ≠ g7 by omega) _)) (fun hHeld => ?_)
         clear hK K
         refine wpAnyH_done (by kernel_rfl) ?_ _
         have hlen1 : (L1 ++ [dn]).length = L1.length + 1 := by simp
         have hgs : w5.grownBy (w5.setCell ⟨g7, 1, none⟩ (.slice (some ⟨g, 0, none⟩) (L1.length + 1) cap)) (some g7) := grown_set _ _ _
         have how : (w5.setCell ⟨g7, 1, none⟩ (.slice (some ⟨g, 0, none⟩) (L1.length + 1) cap)).ownsRow (g7 + 1) 9 1 (.slice (some ⟨g, 0, none⟩) (L1.length + 1) cap) (L1 ++ [dn]).length ((L1 ++ [dn]).map .string) := by
          rw [hlen1]
          have h9 := World.ownsRow.kept hown' hgs (.inr (fun e => by have := (hown'.lt _ e).1; omega))
          simpa using h9
         have how2 := World.ownsRow.kept hF3.2.2.2.2.1 hgs (.inr (fun e => by have := (hF3.2.2.2.2.1.lt _ e).1; omega))
         have hnew : Bk (w5.setCell ⟨g7, 1, none⟩ (.slice (some ⟨g, 0, none⟩) (L1.length + 1) cap)) g7 75 #[v0, .slice (some ⟨g, 0, none⟩) (L1.length + 1) cap] := hF3.2.2.1.set_ 1 _
         have hfin : Hid (Below w.heap.size w (w5.setCell ⟨g7, 1, none⟩ (.slice (some ⟨g, 0, none⟩) (L1.length + 1) cap)) ∧ Bk (w5.setCell ⟨g7, 1, none⟩ (.slice (some ⟨g, 0, none⟩) (L1.length + 1) cap)) (w.heap.size + 1) 75 #[.slice none 0 0, .slice none 0 0] ∧ Bk (w5.setCell ⟨g7, 1, none⟩ (.slice (some ⟨g, 0, none⟩) (L1.length + 1) cap)) g7 75 #[v0, .slice (some ⟨g, 0, none⟩) (L1.length + 1) cap] ∧ own_all (w5.setCell ⟨g7, 1, none⟩ (.slice (some ⟨g, 0, none⟩) (L1.length + 1) cap)) (g7 + 1) v0 (.slice (some ⟨g, 0, none⟩) (L1.length + 1) cap) L0 (L1 ++ [dn])) :=
          ⟨below_sets (o := 1) (vs := [_]) (by omega) hF3.1, hF3.2.1.far (p := ⟨g7, 1, none⟩) (show w.heap.size + 1 ≠ g7 by omega) _, hnew, how2, how, fun r h1 h2 => hF3.2.2.2.2.2 r h2 h1⟩
         clear hgs how how2 hnew hF3 q0 q1 hHeld hcs hat hgrow hown' Hw5
         generalize (w5.setCell ⟨g7, 1, none⟩ (.slice (some ⟨g, 0, none⟩) (L1.length + 1) cap)) = W6 at hfin ⊢
         go_wp2
         go_roundw
         case rel => exact ⟨k + 1, _, _, by omega, by go_num, hfin.out.1, hfin.out.2.1, hfin.out.2.2.1, by rw [Hm1.out, Hm2.out]; exact hfin.out.2.2.2⟩
         case measure => simp [intOf]; omega
     ·
      obtain rfl : k = n := by omega
      have hf : ∀ side, namesR t l side = namesL t (l.take k) side := fun side => by rw [Hr.out, List.take_of_length_le (by rw [Hn.out]; exact Nat.le_refl _)]
      obtain ⟨W4, hW4⟩ : ∃ W4 : World, W4 = wr := ⟨_, rfl⟩
      rw [← hW4] at Hb Hbr Hb7 Ho ⊢
      clear hW4
      have y0 : W4.cell? ⟨g7, 0, none⟩ = some v0 := by rw [Hb7.out.cell]; rfl
      have y1 : W4.cell? ⟨g7, 1, none⟩ = some v1 := by rw [Hb7.out.cell]; rfl
      have u0 : W4.cell? ⟨w.heap.size + 1, 0, none⟩ = some (.slice none 0 0) := by rw [Hbr.out.cell]; rfl
      have u1 : W4.cell? ⟨w.heap.size + 1, 1, none⟩ = some (.slice none 0 0) := by rw [Hbr.out.cell]; rfl
      have z0 : W4.frozen? ⟨w.heap.size + 1, 0, none⟩ = false := Hbr.out.frozen _
      have z1 : W4.frozen? ⟨w.heap.size + 1, 1, none⟩ = false := Hbr.out.frozen _
      have hi75 : Hid ((Tryz.prog.info? 75).map (·.size) = some (#[v0, v1] : Array Value).size) := info75
      have hV0 := Lib.hid (slice_own Ho.out.1)
      have hV1 := Lib.hid (slice_own Ho.out.2.1)
      obtain ⟨A0, c0, rfl⟩ := hV0.out
      obtain ⟨A1, c1, rfl⟩ := hV1.out
      clear hV0 hV1
      have hwg : w.heap.size + 1 < g7 := Hg7.out
      have hgs : W4.grownBy ((W4.setCell ⟨w.heap.size + 1, 0, none⟩ (.slice A0 (namesL t (l.take k) 0).length c0)).setCell ⟨w.heap.size + 1, 1, none⟩ (.slice A1 (namesL t (l.take k) 1).length c1)) (some (w.heap.size + 1)) :=
       (below_grown W4 (w.heap.size + 1) _ _)
      have HF := Lib.hid hf; clear hf
      go_wp2
      refine bodyPost_ret (results_cell_row2 rfl _ _ (w.heap.size + 1) 75 #[.slice A0 (namesL t (l.take k) 0).length c0, .slice A1 (namesL t (l.take k) 1).length c1] _ rfl ((Hbr.out.set_ 0 _).set_ 1 _) Tryz.underlying75 rfl hi75.out) rfl ?_
      rw [HF.out, HF.out]
      exact ⟨⟨_, _, by rw [HE.out]; rfl, SlK.of_own (Ho.out.1.kept hgs (.inr (fun e => by have := (Ho.out.1.lt _ e).1; omega))), SlK.of_own (Ho.out.2.1.kept hgs (.inr (fun e => by have := (Ho.out.2.1.lt _ e).1; omega)))⟩, below_sets (o := 1) (vs := [_]) (by omega) (below_sets (o := 0) (vs := [_]) (by omega) Hb.out)⟩
 ·
  have hz : (checkChanges t l != 0) = true := by simpa using hE
  have HE := Lib.hid hE; clear hE
  have hi75 : Hid ((Tryz.prog.info? 75).map (·.size) = some (#[.slice none 0 0, .slice none 0 0] : Array Value).size) := info75
  have y0 : w1.cell? ⟨w.heap.size + 1, 0, none⟩ = some (.slice none 0 0) := by rw [F1.out.2.2.cell]; rfl
  have y1 : w1.cell? ⟨w.heap.size + 1, 1, none⟩ = some (.slice none 0 0) := by rw [F1.out.2.2.cell]; rfl
  have z0 : w1.frozen? ⟨w.heap.size + 1, 0, none⟩ = false := F1.out.2.2.frozen _
  have z1 : w1.frozen? ⟨w.heap.size + 1, 1, none⟩ = false := F1.out.2.2.frozen _
  have hr : ∀ side, namesR t l side = [] := fun side => by unfold namesR; rw [if_pos HE.out]
  go_wp2
  refine bodyPost_ret (results_cell_row2 rfl _ _ (w.heap.size + 1) 75 #[.slice none 0 0, .slice none 0 0] _ rfl ((F1.out.2.2.set_ 0 _).set_ 1 _) Tryz.underlying75 rfl hi75.out) rfl ?_
  rw [hr, hr]
  exact ⟨⟨_, _, rfl, SlK.nil 1 _, SlK.nil 1 _⟩, below_sets (o := 1) (vs := [.slice none 0 0]) (by omega) (below_sets (o := 0) (vs := [.slice none 0 0]) (by omega) F1.out.1)⟩
end Go.Proofs.YtmagppkclnebjaaGreatDoor
