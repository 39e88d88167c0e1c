/- The reference: Names. -/
import Derived.Test.YtmagppkclnebjaaGreatDoorH3
set_option linter.unusedVariables false
set_option linter.unusedSimpArgs false
set_option linter.unusedSimpArgs false
set_option linter.unusedVariables false
namespace Go.Proofs.YtmagppkclnebjaaGreatDoor
open Go.RowKit
open L

theorem names_lenL (t : Tms) (ht : t.ok) (l : List Chg) (side : Int) : (namesL t l side).length ≤ 9 + l.length := by
 have := L.namesL_len t side l (t.get side).b
 rw [(Tms.get_ok t ht side).1] at this
 exact this
theorem names_len1000 (t : Tms) (ht : t.ok) (l : List Chg) (h : l.length ≤ 100) : (namesR t l 0).length ≤ 1000 ∧ (namesR t l 1).length ≤ 1000 := by
 have h0 := names_lenL t ht l 0
 have h1 := names_lenL t ht l 1
 unfold namesR
 constructor
 ·
  split
  ·
   exact Nat.zero_le _
  ·
   omega
 ·
  split
  ·
   exact Nat.zero_le _
  ·
   omega

set_option maxHeartbeats 4000000 in
set_option maxRecDepth 100000 in
theorem refNames_any (t : Tms) (ht : t.ok) (T : Array Value) (hT : T = t.cells.toArray) (l : List Chg) (A : Option Addr) (n c : Nat) (hn : l.length = n) (hle : n ≤ 1000) (side : Int) (hs : side = 0 ∨ side = 1) (w : World) (hl : RdC w A l) :
 Calls Tryz.prog 43 #[.agg T, .slice A n c, .int .i64 side] w fun x w' => (∃ B d, x = .returned (.slice B (namesL t l side).length d) ∧ Rd w' B ((namesL t l side).map .string)) ∧ Below w.heap.size w w' := by
 obtain ⟨i0, hi, hz0, hz1, hz2⟩ := info_parts infoS
 have F : Hid (Below w.heap.size w (w.alloc (.cells T 46)) ∧ Bk (w.alloc (.cells T 46)) w.heap.size 46 t.cells.toArray) := ⟨bt_new w _, by rw [← hT]; exact Bk.new w 46 T⟩
 obtain ⟨sd, hsd, rfl⟩ : ∃ sd : Nat, sd < 2 ∧ side = (sd : Int) := by rcases hs with rfl | rfl; exact ⟨0, by omega, rfl⟩; exact ⟨1, by omega, rfl⟩
 have HC : Hid (∀ W k, Bk W w.heap.size 46 t.cells.toArray → k < 9 → W.cell? ⟨w.heap.size, sd * 18 + k, none⟩ = some (.string ((t.get sd).b.getD k .empty))) := fun W k h hk => by
  have := Tms.cell_b t ht sd hs k hk
  rw [h.cell, List.getElem?_toArray]
  simpa using this
 have Hok := Lib.hid (Tms.get_ok t ht sd)
 have Hn := Lib.hid hn; have Hl := Lib.hid hl
 clear hT ht hn hl hs
 obtain ⟨f, hf⟩ : ∃ f : List Str → Chg → List Str, f = fun out d => if d.side = (sd : Int) then addName out d.name else out := ⟨_, rfl⟩
 have Hnl : Hid (namesL t l sd = l.foldl f (t.get sd).b) := by show _ = _; rw [hf]; rfl
 have Hf := Lib.hid hf
 clear hf
 generalize hX : t.get sd = X at HC Hok Hnl
 have s0 : (0 : Int) ≤ (sd : Int) := by omega
 have s2 : (sd : Int) < 2 := by omega
 clear hX hsd
 generalize t.cells = tc at F HC
 go_enter Tryz.func43, Tryz.ntmps43
 go_upto_region 3 with fail
 generalize (w.alloc (.cells T 46)) = W0 at F ⊢
 go_loopw [7, 8] (fun v i wr => ∃ k : Nat, k ≤ 9 ∧ i = .int .i64 k ∧ Below w.heap.size w wr ∧ Bk wr w.heap.size 46 tc.toArray ∧ wr.ownsRow (w.heap.size + 1) 9 1 v k ((X.b.take k).map .string)) (fun _ i _ => 9 - (intOf i).toNat)
 case atStart => exact ⟨0, Nat.zero_le _, rfl, F.out.1, F.out.2, World.ownsRow_nil _ _ _ _⟩
 case round =>
  clear F
  obtain ⟨k, hk, rfl, hb, hbk, hown⟩ := hrel
  have F1 := Lib.hid (show Below w.heap.size w wr ∧ Bk wr w.heap.size 46 tc.toArray ∧ wr.ownsRow (w.heap.size + 1) 9 1 u7 k ((X.b.take k).map .string) from ⟨hb, hbk, hown⟩)
  clear hb hbk hown
  by_cases hk9 : k < 9
  ·
   have c1 := HC.out wr k F1.out.2.1 hk9
   have htk : X.b.take (k + 1) = X.b.take k ++ [X.b.getD k .empty] := by
    have hkl : k < X.b.length := by rw [Hok.out.1]; exact hk9
    rw [List.take_succ_eq_append_getElem hkl]; simp [List.getD, List.getElem?_eq_getElem hkl]
   have q0 : (0 : Int) ≤ (k : Int) := by omega
   have q1 : (k : Int) < 9 := by omega
   generalize X.b.getD k .empty = s at c1 htk
   have Htk := Lib.hid htk; clear htk
   have hcs := cell_one_new wr (.string s) 9
   have hlt := F1.out.2.1.lt
   go_wp2_with (at_builtin; refine wpList_append_own _ rfl _ _ 26 rfl (w.heap.size + 1) 9 i0 (.string { data := #[] }) 1 16 Tryz.underlying26 hi hz0 hz1 hz2 rfl (by decide) _ _ _ rfl (F1.out.2.2.alloc _) ⟨wr.heap.size, 0, none⟩ 1 1 [.string s] rfl rfl hcs (strs_oneCell [s]) (by unfold maxLen; omega) (by omega) (by simp; omega) ?_; intro v' w5 hown' hgrow hnil)
   have F5 : Hid (Below w.heap.size w w5 ∧ Bk w5 w.heap.size 46 tc.toArray ∧ w5.ownsRow (w.heap.size + 1) 9 1 v' (k + 1) ((X.b.take (k + 1)).map .string)) := by
    refine ⟨(bt_alloc F1.out.1 _).grown hgrow (by simp; omega) (fun q e => by have := (F1.out.2.2.lt q e).1; omega), (hgrow.block _ (by simp; omega) (fun e => by have := (F1.out.2.2.lt _ e.symm).1; omega)).trans (F1.out.2.1.alloc _), by rw [Htk.out, List.map_append]; exact hown'⟩
   clear hown' hgrow hnil hcs c1 F1
   go_roundw
   case rel => exact ⟨k + 1, by omega, by go_num, F5.out.1, F5.out.2.1, F5.out.2.2⟩
   case measure => simp [intOf]; omega
  ·
   have e9 : X.b.take k = X.b := List.take_of_length_le (by rw [Hok.out.1]; omega)
   rw [e9] at F1
   have Hk9 : Hid (k = X.b.length) := by show _ = _; rw [Hok.out.1]; omega
   have n9 : ¬ (k : Int) < 9 := by omega
   clear e9
   go_upto_region 7 with fail
   go_loopw [7, 9] (fun v i wr => ∃ (k : Nat) (out : List Str), k ≤ n ∧ i = .int .i64 k ∧ Below w.heap.size w wr ∧ wr.ownsRow (w.heap.size + 1) 9 1 v out.length (out.map .string) ∧ out = (l.take k).foldl f X.b ∧ out.length ≤ 9 + k ∧ w.heap.size < wr.heap.size) (fun _ i _ => n - (intOf i).toNat)
   case atStart => exact ⟨0, X.b, Nat.zero_le _, rfl, F1.out.1, by rw [← Hk9.out]; exact F1.out.2.2, by simp, by rw [Hok.out.1]; omega, F1.out.2.1.lt⟩
   case round =>
    clear F1 Hk9 hk9 n9
    obtain ⟨k, out, hk, rfl, hb, hown, hout, hol, hwl⟩ := hrel
    have F2 := Lib.hid (show Below w.heap.size w wr ∧ wr.ownsRow (w.heap.size + 1) 9 1 u7 out.length (out.map .string) from ⟨hb, hown⟩)
    have Hout := Lib.hid hout
    clear hb hown hout
    by_cases hkn : k < n
    ·
     obtain ⟨b, off, rfl, hc⟩ := Hl.out k (by rw [Hn.out]; exact hkn)
     have hb0 : b < w.heap.size := World.block_lt_of_cell? w ⟨b, off + k * 5 + 0, none⟩ (u := .int .i64 (l.getD k noChg).side) (by rw [hc 0 (by omega)]; rfl)
     have c0 : wr.cell? ⟨b, off + k * 5, none⟩ = some (.int .i64 (l.getD k noChg).side) := (F2.out.1.cell (p := ⟨b, off + k * 5, none⟩) hb0).trans (hc 0 (by omega))
     have c3 : wr.cell? ⟨b, off + k * 5 + 3, none⟩ = some (.string (l.getD k noChg).name) := (F2.out.1.cell (p := ⟨b, off + k * 5 + 3, none⟩) hb0).trans (hc 3 (by omega))
     have hstep : (l.take (k + 1)).foldl f X.b = f ((l.take k).foldl f X.b) (l.getD k noChg) := by
      have hkl : k < l.length := by rw [Hn.out]; exact hkn
      rw [List.take_succ_eq_append_getElem hkl, List.foldl_append]; simp [List.getD, List.getElem?_eq_getElem hkl]
     generalize l.getD k noChg = d at c0 c3 hstep
     have Hstep := Lib.hid hstep; clear hstep hc
     have q0 : (0 : Int) ≤ (k : Int) := by omega
     have q1 : (k : Int) < (n : Int) := by omega
     by_cases hsd : d.side = (sd : Int)
     ·
      have ht : (d.side == (sd : Int)) = true := by simpa using hsd
      have H54 : Hid (Calls Tryz.prog 54 #[u7, .string d.name] wr fun x w' => x = .returned (.bool (decide (d.name ∈ out))) ∧ wr = w') := by
       obtain ⟨_, A7, c7, h7, hr7⟩ := SlK.of_own F2.out.2
       show Calls _ _ _ _ _
       rw [h7]
       exact hasWord_any out A7 out.length c7 d.name wr rfl (by omega) hr7
      by_cases hm : d.name ∈ out
      ·
       rw [decide_eq_true hm] at H54
       have he : Hid (out = (l.take (k + 1)).foldl f X.b) := by
        show _ = _
        rw [Hstep.out, ← Hout.out, Hf.out]; simp [hsd, addName, hm]
       clear hsd hm
       go_wp2_with (go_at_call 54; refine H54.out.mono ?_; rintro e w' ⟨rfl, rfl⟩)
       go_roundw
       case rel => exact ⟨k + 1, out, by omega, by go_num, F2.out.1, F2.out.2, he.out, by omega, hwl⟩
       case measure => simp [intOf]; omega
      ·
       rw [decide_eq_false hm] at H54
       have he : Hid (out ++ [d.name] = (l.take (k + 1)).foldl f X.b) := by
        show _ = _
        rw [Hstep.out, ← Hout.out, Hf.out]; simp [hsd, addName, hm]
       clear hsd hm
       have hcs := cell_one_new wr (.string d.name) 9
       go_wp2_with (first
        | (go_at_call 54; refine H54.out.mono ?_; rintro e w' ⟨rfl, rfl⟩)
        | (at_builtin; refine wpList_append_own _ rfl _ _ 26 rfl (w.heap.size + 1) 9 i0 (.string { data := #[] }) 1 16 Tryz.underlying26 hi hz0 hz1 hz2 rfl (by decide) _ _ _ rfl (F2.out.2.alloc _) ⟨wr.heap.size, 0, none⟩ 1 1 [.string d.name] rfl rfl hcs (strs_oneCell [d.name]) (by unfold maxLen; omega) (by omega) (by simp; omega) ?_; intro v' w5 hown' hgrow hnil))
       have F5 : Hid (Below w.heap.size w w5 ∧ w5.ownsRow (w.heap.size + 1) 9 1 v' (out ++ [d.name]).length ((out ++ [d.name]).map .string) ∧ w.heap.size < w5.heap.size) := by
        refine ⟨(bt_alloc F2.out.1 _).grown hgrow (by simp; omega) (fun q e => by have := (F2.out.2.lt q e).1; omega), by simpa using hown', by have := hgrow.size; simp at this; omega⟩
       clear hown' hgrow hnil hcs F2
       go_roundw
       case rel => exact ⟨k + 1, out ++ [d.name], by omega, by go_num, F5.out.1, F5.out.2.1, he.out, by simp; omega, F5.out.2.2⟩
       case measure => simp [intOf]; omega
     ·
      have ht : (d.side == (sd : Int)) = false := by simpa using hsd
      have he : Hid (out = (l.take (k + 1)).foldl f X.b) := by
       show _ = _
       rw [Hstep.out, ← Hout.out, Hf.out]; simp [hsd]
      clear hsd
      go_wp2
      go_roundw
      case rel => exact ⟨k + 1, out, by omega, by go_num, F2.out.1, F2.out.2, he.out, by omega, hwl⟩
      case measure => simp [intOf]; omega
    ·
     obtain rfl : k = n := by omega
     have he : Hid (namesL t l sd = out) := by
      show _ = _
      rw [Hnl.out, Hout.out, List.take_of_length_le (by rw [Hn.out]; exact Nat.le_refl _)]
     obtain ⟨_, A7, c7, rfl, hr7⟩ := SlK.of_own F2.out.2
     go_wp2
     go_ret
     rw [he.out]
     exact ⟨⟨A7, c7, rfl, hr7⟩, F2.out.1⟩
end Go.Proofs.YtmagppkclnebjaaGreatDoor
