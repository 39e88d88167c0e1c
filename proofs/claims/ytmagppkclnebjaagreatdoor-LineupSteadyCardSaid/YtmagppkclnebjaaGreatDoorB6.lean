/- The law's copies of changes and of stints as the reference's; the reference's comparisons of lists of them. -/
import Derived.Test.YtmagppkclnebjaaGreatDoorQr
import Derived.Test.YtmagppkclnebjaaGreatDoorA18
import Derived.OwnWalk
set_option linter.unusedVariables false
set_option linter.unusedSimpArgs false
set_option linter.unusedSimpArgs false
namespace Go.Proofs.YtmagppkclnebjaaGreatDoor
open Go.RowKit
open L

def noChg : Chg := ⟨0, 0, 0, .empty, 0⟩
def flatC (S : List Chg) : List Value := S.flatMap fun s => s.val.toList
theorem flatC_append (S R : List Chg) : flatC (S ++ R) = flatC S ++ flatC R := by simp [flatC]
theorem flatC_one (x : Chg) : flatC [x] = x.val.toList := by simp [flatC]
theorem flatC_len : ∀ S : List Chg, (flatC S).length = S.length * 5
 | [] => rfl
 | s :: r => by
  have := flatC_len r
  simp only [flatC, List.flatMap_cons, List.length_append, List.length_cons] at this ⊢
  rw [this]; simp [L.Chg.val]; omega
theorem flatC_at : ∀ (S : List Chg) (i r : Nat), i < S.length → r < 5 → (flatC S)[i * 5 + r]? = (S.getD i noChg).val[r]?
 | [], i, _, h, _ => by simp at h
 | s :: R, 0, r, _, hr => by
  have e : flatC (s :: R) = s.val.toList ++ flatC R := by simp [flatC]
  rw [e, Nat.zero_mul, Nat.zero_add, List.getElem?_append_left (by simpa [L.Chg.val] using hr)]
  simp
 | s :: R, i + 1, r, h, hr => by
  have e : flatC (s :: R) = s.val.toList ++ flatC R := by simp [flatC]
  have := flatC_at R i r (by simpa using h) hr
  rw [e, List.getElem?_append_right (by simp [L.Chg.val]; omega)]
  simp only [L.Chg.val, List.length_cons, List.length_nil] at this ⊢
  rw [show (i + 1) * 5 + r - (0 + 1 + 1 + 1 + 1 + 1) = i * 5 + r by omega, this]
  simp
theorem RdC.of_slk {w : World} {n c : Nat} {A : Option Addr} {S : List Chg} (h : SlK 5 w (.slice A n c) n (flatC S)) : RdC w A S := fun k hk => by
 obtain ⟨h1, A', c', e, hr⟩ := h
 injection e with e1 e2 e3
 subst e1
 rw [flatC_len] at h1
 obtain ⟨b, off, e, hc⟩ := hr.at_ (k := k * 5) (by rw [flatC_len]; omega)
 subst e
 refine ⟨b, off, rfl, fun j hj => ?_⟩
 rcases hr with h0 | ⟨b', off', e', hc'⟩
 ·
  have : (flatC S).length = 0 := by rw [h0]; rfl
  rw [flatC_len] at this; omega
 ·
  injection e' with e'
  injection e' with e1 e2
  subst e1; subst e2
  rw [Nat.add_assoc, hc' _ (by rw [flatC_len]; omega), flatC_at S k j hk hj]; rfl
theorem info144 : (Tryz.prog.info? 144).map (fun i => (i.zero, i.size, i.bytes)) = some (some (.agg #[.int .i64 0, .int .i64 0, .int .i64 0, .string { data := #[] }, .int .i64 0]), 5, 48) := by kernel_rfl
theorem info124 : (Tryz.prog.info? 124).map (fun i => (i.zero, i.size, i.bytes)) = some (some (.agg #[.int .i64 0, .int .i64 0, .int .i64 0, .string { data := #[] }, .int .i64 0, .int .i64 0]), 6, 56) := by kernel_rfl
theorem new_cells (W : World) (cs : Array Value) (t : TypeId) : ∀ j u, cs.toList[j]? = some u → (W.alloc (.cells cs t)).cell? ((⟨W.heap.size, 0, none⟩ : Addr).add j) = some u := fun j u hu => by
 rw [Addr.add_mid, (Bk.new W t cs).cell, Nat.zero_add, ← Array.getElem?_toList]; exact hu
theorem slk_form {k n : Nat} {w : World} {v : Value} {xs : List Value} (h : SlK k w v n xs) : ∃ A c, v = .slice A n c := by
 obtain ⟨_, A, c, e, _⟩ := h
 exact ⟨A, c, e⟩

set_option maxHeartbeats 2000000 in
theorem changes_any (l : List Chg) (A : Option Addr) (n c : Nat) (hn : l.length = n) (hle : n ≤ 100000) (w : World) (hl : RdC w A l) :
 Calls Tryz.prog 31 #[.slice A n c] w fun x w' => (∃ v, x = .returned v ∧ SlK 5 w' v n (flatC l)) ∧ Below w.heap.size w w' := by
 obtain ⟨i0, hi, hz0, hz1, hz2⟩ := info_parts info144
 have Hn := Lib.hid hn; have Hl := Lib.hid hl
 clear hn hl
 go_enter Tryz.func31, Tryz.ntmps31
 go_wp2
 go_loopw [3, 7] (fun v i wr => ∃ k : Nat, k ≤ n ∧ i = .int .i64 k ∧ Below w.heap.size w wr ∧ wr.ownsRow w.heap.size 144 5 v k (flatC (l.take k))) (fun _ i _ => n - (intOf i).toNat)
 case atStart => exact ⟨0, by omega, rfl, Below.refl _ _, World.ownsRow_nil _ _ _ _⟩
 case round =>
  obtain ⟨k, hk, rfl, hb, hown⟩ := hrel
  have Hb := Lib.hid hb; have Hown := Lib.hid hown
  clear hb hown
  by_cases hkn : k < n
  ·
   obtain ⟨b, off, rfl, hc⟩ := Hl.out k (by rw [Hn.out]; exact hkn)
   have hb0 : b < w.heap.size := World.block_lt_of_cell? w ⟨b, off + k * 5 + 0, none⟩ (u := .int .i64 (l.getD k noChg).side) (by rw [hc 0 (by omega)]; rfl)
   have hcell : ∀ j, j < 5 → wr.cell? ⟨b, off + k * 5 + j, none⟩ = (l.getD k noChg).val[j]? := fun j hj => by
    rw [Hb.out.cell (p := ⟨b, off + k * 5 + j, none⟩) hb0]; exact hc j hj
   have htk : l.take (k + 1) = l.take k ++ [l.getD k noChg] := by
    have hkl : k < l.length := by rw [Hn.out]; exact hkn
    rw [List.take_succ_eq_append_getElem hkl]; simp [List.getD, List.getElem?_eq_getElem hkl]
   generalize l.getD k noChg = d at hcell htk
   have Htk := Lib.hid htk; clear htk hc
   have c0 : wr.cell? ⟨b, off + k * 5, none⟩ = some (.int .i64 d.side) := hcell 0 (by omega)
   have c1 : wr.cell? ⟨b, off + k * 5 + 1, none⟩ = some (.int .i64 d.play) := hcell 1 (by omega)
   have c2 : wr.cell? ⟨b, off + k * 5 + 2, none⟩ = some (.int .i64 d.slot) := hcell 2 (by omega)
   have c3 : wr.cell? ⟨b, off + k * 5 + 3, none⟩ = some (.string d.name) := hcell 3 (by omega)
   have c4 : wr.cell? ⟨b, off + k * 5 + 4, none⟩ = some (.int .i64 d.pos) := hcell 4 (by omega)
   clear hcell
   have hcs := new_cells wr #[.int .i64 d.side, .int .i64 d.play, .int .i64 d.slot, .string d.name, .int .i64 d.pos] 144
   have Hcs := Lib.hid hcs; clear hcs
   have hsz := Hb.out.size
   go_wp2_with (at_builtin; refine wpList_append_own _ rfl _ _ 47 rfl w.heap.size 144 i0 (.agg #[.int .i64 0, .int .i64 0, .int .i64 0, .string { data := #[] }, .int .i64 0]) 5 48 Tryz.underlying47 hi hz0 hz1 hz2 rfl (by decide) _ _ _ rfl (Hown.out.alloc _) ⟨wr.heap.size, 0, none⟩ 1 1 (#[.int .i64 d.side, .int .i64 d.play, .int .i64 d.slot, .string d.name, .int .i64 d.pos] : Array Value).toList rfl rfl Hcs.out (by simp [Value.oneCell']) (by unfold maxLen; omega) (by omega) (by simp; omega) ?_; intro v' w5 hown' hgrow hnil)
   go_roundw
   case rel =>
    refine ⟨k + 1, by omega, by go_num, (bt_alloc Hb.out _).grown hgrow (by simp; omega) (fun r e => (Hown.out.lt r e).1), ?_⟩
    rw [Htk.out, flatC_append, flatC_one]
    exact hown'
   case measure => simp [intOf]; omega
  ·
   obtain rfl : k = n := by omega
   have e0 : l.take k = l := List.take_of_length_le (by rw [Hn.out]; exact Nat.le_refl _)
   rw [e0] at Hown
   go_wp2
   go_ret
   exact ⟨⟨_, rfl, SlK.of_own Hown.out⟩, Hb.out⟩

set_option maxHeartbeats 2000000 in
theorem stintsLaw_any (l : List Sti) (A : Option Addr) (n c : Nat) (hn : l.length = n) (hle : n ≤ 100000) (w : World) (hl : RdS w A l) :
 Calls Tryz.prog 65 #[.slice A n c] w fun x w' => (∃ v, x = .returned v ∧ SlK 6 w' v n (flatS l)) ∧ Below w.heap.size w w' := by
 obtain ⟨i0, hi, hz0, hz1, hz2⟩ := info_parts info124
 have Hn := Lib.hid hn; have Hl := Lib.hid hl
 clear hn hl
 go_enter Tryz.func65, Tryz.ntmps65
 go_wp2
 go_loopw [3, 7] (fun v i wr => ∃ k : Nat, k ≤ n ∧ i = .int .i64 k ∧ Below w.heap.size w wr ∧ wr.ownsRow w.heap.size 124 6 v k (flatS (l.take k))) (fun _ i _ => n - (intOf i).toNat)
 case atStart => exact ⟨0, by omega, rfl, Below.refl _ _, World.ownsRow_nil _ _ _ _⟩
 case round =>
  obtain ⟨k, hk, rfl, hb, hown⟩ := hrel
  have Hb := Lib.hid hb; have Hown := Lib.hid hown
  clear hb hown
  by_cases hkn : k < n
  ·
   obtain ⟨b, off, rfl, hc⟩ := Hl.out k (by rw [Hn.out]; exact hkn)
   have hb0 : b < w.heap.size := World.block_lt_of_cell? w ⟨b, off + k * 6 + 0, none⟩ (u := .int .i64 (l.getD k noSti).side) (by rw [hc 0 (by omega)]; rfl)
   have hcell : ∀ j, j < 6 → wr.cell? ⟨b, off + k * 6 + j, none⟩ = (l.getD k noSti).val[j]? := fun j hj => by
    rw [Hb.out.cell (p := ⟨b, off + k * 6 + j, none⟩) hb0]; exact hc j hj
   have htk : l.take (k + 1) = l.take k ++ [l.getD k noSti] := by
    have hkl : k < l.length := by rw [Hn.out]; exact hkn
    rw [List.take_succ_eq_append_getElem hkl]; simp [List.getD, List.getElem?_eq_getElem hkl]
   generalize l.getD k noSti = d at hcell htk
   have Htk := Lib.hid htk; clear htk hc
   have c0 : wr.cell? ⟨b, off + k * 6, none⟩ = some (.int .i64 d.side) := hcell 0 (by omega)
   have c1 : wr.cell? ⟨b, off + k * 6 + 1, none⟩ = some (.int .i64 d.slot) := hcell 1 (by omega)
   have c2 : wr.cell? ⟨b, off + k * 6 + 2, none⟩ = some (.int .i64 d.pos) := hcell 2 (by omega)
   have c3 : wr.cell? ⟨b, off + k * 6 + 3, none⟩ = some (.string d.name) := hcell 3 (by omega)
   have c4 : wr.cell? ⟨b, off + k * 6 + 4, none⟩ = some (.int .i64 d.fr) := hcell 4 (by omega)
   have c5 : wr.cell? ⟨b, off + k * 6 + 5, none⟩ = some (.int .i64 d.to) := hcell 5 (by omega)
   clear hcell
   have hcs := new_cells wr #[.int .i64 d.side, .int .i64 d.slot, .int .i64 d.pos, .string d.name, .int .i64 d.fr, .int .i64 d.to] 124
   have Hcs := Lib.hid hcs; clear hcs
   have hsz := Hb.out.size
   go_wp2_with (at_builtin; refine wpList_append_own _ rfl _ _ 90 rfl w.heap.size 124 i0 (.agg #[.int .i64 0, .int .i64 0, .int .i64 0, .string { data := #[] }, .int .i64 0, .int .i64 0]) 6 56 Tryz.underlying90 hi hz0 hz1 hz2 rfl (by decide) _ _ _ rfl (Hown.out.alloc _) ⟨wr.heap.size, 0, none⟩ 1 1 (#[.int .i64 d.side, .int .i64 d.slot, .int .i64 d.pos, .string d.name, .int .i64 d.fr, .int .i64 d.to] : Array Value).toList rfl rfl Hcs.out (by simp [Value.oneCell']) (by unfold maxLen; omega) (by omega) (by simp; omega) ?_; intro v' w5 hown' hgrow hnil)
   go_roundw
   case rel =>
    refine ⟨k + 1, by omega, by go_num, (bt_alloc Hb.out _).grown hgrow (by simp; omega) (fun r e => (Hown.out.lt r e).1), ?_⟩
    rw [Htk.out, flatS_append, flatS_one]
    exact hown'
   case measure => simp [intOf]; omega
  ·
   obtain rfl : k = n := by omega
   have e0 : l.take k = l := List.take_of_length_le (by rw [Hn.out]; exact Nat.le_refl _)
   rw [e0] at Hown
   go_wp2
   go_ret
   exact ⟨⟨_, rfl, SlK.of_own Hown.out⟩, Hb.out⟩
theorem size144 : (Tryz.prog.info? 144).map (·.size) = some 5 := by kernel_rfl
theorem size124 : (Tryz.prog.info? 124).map (·.size) = some 6 := by kernel_rfl

set_option maxHeartbeats 2000000 in
theorem sameChanges_any (xs ys : List Chg) (A B : Option Addr) (n m c d : Nat) (w : World) (hx : xs.length = n) (hy : ys.length = m) (hle : n ≤ 100000) (h1 : RdC w A xs) (h2 : RdC w B ys) :
 Calls Tryz.prog 30 #[.slice A n c, .slice B m d] w fun x w' => x = .returned (.bool (decide (xs = ys))) ∧ ∃ q, w' = w.drewN q := by
 have Hx := Lib.hid hx; have Hy := Lib.hid hy; have H1 := Lib.hid h1; have H2 := Lib.hid h2
 clear hx hy h1 h2
 by_cases hnm : n = m
 ·
  subst hnm
  go_enter Tryz.func30, Tryz.ntmps30
  go_wp2
  go_loopw [5] (fun i wr => ∃ k : Nat, k ≤ n ∧ i = .int .i64 k ∧ (∃ q, wr = w.drewN q) ∧ ∀ j, j < k → xs.getD j noChg = ys.getD j noChg) (fun i _ => n - (intOf i).toNat)
  case atStart => exact ⟨0, Nat.zero_le _, rfl, ⟨0, rfl⟩, by intro j hj; omega⟩
  case round =>
   obtain ⟨k, hk, rfl, ⟨q, rfl⟩, hj⟩ := hrel
   have Hj := Lib.hid hj; clear hj
   by_cases hlt : k < n
   ·
    obtain ⟨b, off, rfl, hc1⟩ := H1.out k (by rw [Hx.out]; exact hlt)
    obtain ⟨bb2, off2, rfl, hc2⟩ := H2.out k (by rw [Hy.out]; exact hlt)
    have ra : ((w.drewN q).drew).rangeAt b (off + k * 5) (xs.getD k noChg).val.toList := fun j v hv => by
     rw [Array.getElem?_toList] at hv
     exact (hc1 j (by have := (Array.getElem?_eq_some_iff.1 hv).1; exact this)).trans hv
    have rb : ((w.drewN q).drew).rangeAt bb2 (off2 + k * 5) (ys.getD k noChg).val.toList := fun j v hv => by
     rw [Array.getElem?_toList] at hv
     exact (hc2 j (by have := (Array.getElem?_eq_some_iff.1 hv).1; exact this)).trans hv
    clear hc1 hc2
    generalize he : xs.getD k noChg = e at ra
    generalize hf : ys.getD k noChg = f at rb
    have He := Lib.hid he; have Hf := Lib.hid hf; clear he hf
    have q0 : (0 : Int) ≤ (k : Int) := by omega
    have q1 : (k : Int) < (n : Int) := by omega
    have ht : ∀ W, (binOp .neq 144 (.agg e.val.toList.toArray) (.agg f.val.toList.toArray)).run Tryz.prog W = .ok (.bool (!decide (e = f))) W := fun W => by
     rw [Array.toArray_toList, Array.toArray_toList]; exact op_neq144 W e f
    have Hsz : Hid ((Tryz.prog.info? 144).map (·.size) = some e.val.toList.length ∧ (Tryz.prog.info? 144).map (·.size) = some f.val.toList.length) := ⟨size144, size144⟩
    by_cases hq : e = f
    ·
     rw [decide_eq_true hq] at ht
     have Hq := Lib.hid hq; clear hq
     generalize e.val.toList = ce at ra ht Hsz
     generalize f.val.toList = cf at rb ht Hsz
     have ht' : ∀ W, (binOp .neq 144 (.agg ce.toArray) (.agg cf.toArray)).run Tryz.prog W = .ok (.bool false) W := ht
     clear ht
     go_upto_region 6 with fail
     refine wp_region_held_drew (S := fun W => W.rangeAt b (off + k * 5) ce ∧ W.rangeAt bb2 (off2 + k * 5) cf) (by kernel_rfl) (⟨ra, rb⟩) (fun hHeld => ?_)
     refine tkE (i := 0) rfl ?_
     refine tkE (i := 1) rfl ?_
     refine tkE (i := 2) rfl ?_
     refine ldE (i := 3) rfl rfl rfl (ce) (fun W h => h.1) Tryz.underlying144 rfl (Hsz.out.1) ?_
     refine tkE (i := 4) rfl ?_
     refine tkE (i := 5) rfl ?_
     refine tkE (i := 6) rfl ?_
     refine ldE (i := 7) rfl rfl rfl (cf) (fun W h => h.2) Tryz.underlying144 rfl (Hsz.out.2) ?_
     refine tkE (i := 8) rfl ?_
     refine wpAnyH_done (by kernel_rfl) ?_ _
     clear hHeld
     go_wp2
     go_roundw
     case rel =>
      refine ⟨k + 1, by omega, by go_num, ⟨q + 1, rfl⟩, fun j hj => ?_⟩
      rcases Nat.lt_succ_iff_lt_or_eq.1 hj with h1 | rfl
      ·
       exact Hj.out j h1
      ·
       rw [He.out, Hf.out, Hq.out]
     case measure => simp [intOf]; omega
    ·
     rw [decide_eq_false hq] at ht
     have Hq := Lib.hid hq; clear hq
     generalize e.val.toList = ce at ra ht Hsz
     generalize f.val.toList = cf at rb ht Hsz
     have ht' : ∀ W, (binOp .neq 144 (.agg ce.toArray) (.agg cf.toArray)).run Tryz.prog W = .ok (.bool true) W := ht
     clear ht
     go_upto_region 6 with fail
     refine wp_region_held_drew (S := fun W => W.rangeAt b (off + k * 5) ce ∧ W.rangeAt bb2 (off2 + k * 5) cf) (by kernel_rfl) (⟨ra, rb⟩) (fun hHeld => ?_)
     refine tkE (i := 0) rfl ?_
     refine tkE (i := 1) rfl ?_
     refine tkE (i := 2) rfl ?_
     refine ldE (i := 3) rfl rfl rfl (ce) (fun W h => h.1) Tryz.underlying144 rfl (Hsz.out.1) ?_
     refine tkE (i := 4) rfl ?_
     refine tkE (i := 5) rfl ?_
     refine tkE (i := 6) rfl ?_
     refine ldE (i := 7) rfl rfl rfl (cf) (fun W h => h.2) Tryz.underlying144 rfl (Hsz.out.2) ?_
     refine tkE (i := 8) rfl ?_
     refine wpAnyH_done (by kernel_rfl) ?_ _
     clear hHeld
     go_wp2
     go_ret
     refine ⟨ret_bool ?_, ⟨q + 1, rfl⟩⟩
     symm
     rw [decide_eq_false_iff_not]
     rintro rfl
     exact Hq.out (He.out.symm.trans Hf.out)
   ·
    obtain rfl : k = n := by omega
    go_wp2
    go_ret
    refine ⟨ret_bool ?_, ⟨_, rfl⟩⟩
    symm
    rw [decide_eq_true_eq]
    apply List.ext_getElem (by rw [Hx.out, Hy.out])
    intro j h1 h2
    have := Hj.out j (by rw [Hx.out] at h1; exact h1)
    simpa [List.getD, List.getElem?_eq_getElem h1, List.getElem?_eq_getElem h2] using this
 ·
  have q1 : ((n : Int) != (m : Int)) = true := by simp; omega
  go_enter Tryz.func30, Tryz.ntmps30
  go_wp2
  go_ret
  refine ⟨ret_bool ?_, ⟨0, rfl⟩⟩
  symm
  rw [decide_eq_false_iff_not]
  rintro rfl
  exact hnm (Hx.out.symm.trans Hy.out)

set_option maxHeartbeats 2000000 in
theorem sameStints_any (xs ys : List Sti) (A B : Option Addr) (n m c d : Nat) (w : World) (hx : xs.length = n) (hy : ys.length = m) (hle : n ≤ 100000) (h1 : RdS w A xs) (h2 : RdS w B ys) :
 Calls Tryz.prog 64 #[.slice A n c, .slice B m d] w fun x w' => x = .returned (.bool (decide (xs = ys))) ∧ ∃ q, w' = w.drewN q := by
 have Hx := Lib.hid hx; have Hy := Lib.hid hy; have H1 := Lib.hid h1; have H2 := Lib.hid h2
 clear hx hy h1 h2
 by_cases hnm : n = m
 ·
  subst hnm
  go_enter Tryz.func64, Tryz.ntmps64
  go_wp2
  go_loopw [5] (fun i wr => ∃ k : Nat, k ≤ n ∧ i = .int .i64 k ∧ (∃ q, wr = w.drewN q) ∧ ∀ j, j < k → xs.getD j noSti = ys.getD j noSti) (fun i _ => n - (intOf i).toNat)
  case atStart => exact ⟨0, Nat.zero_le _, rfl, ⟨0, rfl⟩, by intro j hj; omega⟩
  case round =>
   obtain ⟨k, hk, rfl, ⟨q, rfl⟩, hj⟩ := hrel
   have Hj := Lib.hid hj; clear hj
   by_cases hlt : k < n
   ·
    obtain ⟨b, off, rfl, hc1⟩ := H1.out k (by rw [Hx.out]; exact hlt)
    obtain ⟨bb2, off2, rfl, hc2⟩ := H2.out k (by rw [Hy.out]; exact hlt)
    have ra : ((w.drewN q).drew).rangeAt b (off + k * 6) (xs.getD k noSti).val.toList := fun j v hv => by
     rw [Array.getElem?_toList] at hv
     exact (hc1 j (by have := (Array.getElem?_eq_some_iff.1 hv).1; exact this)).trans hv
    have rb : ((w.drewN q).drew).rangeAt bb2 (off2 + k * 6) (ys.getD k noSti).val.toList := fun j v hv => by
     rw [Array.getElem?_toList] at hv
     exact (hc2 j (by have := (Array.getElem?_eq_some_iff.1 hv).1; exact this)).trans hv
    clear hc1 hc2
    generalize he : xs.getD k noSti = e at ra
    generalize hf : ys.getD k noSti = f at rb
    have He := Lib.hid he; have Hf := Lib.hid hf; clear he hf
    have q0 : (0 : Int) ≤ (k : Int) := by omega
    have q1 : (k : Int) < (n : Int) := by omega
    have ht : ∀ W, (binOp .neq 124 (.agg e.val.toList.toArray) (.agg f.val.toList.toArray)).run Tryz.prog W = .ok (.bool (!decide (e = f))) W := fun W => by
     rw [Array.toArray_toList, Array.toArray_toList]; exact op_neq124 W e f
    have Hsz : Hid ((Tryz.prog.info? 124).map (·.size) = some e.val.toList.length ∧ (Tryz.prog.info? 124).map (·.size) = some f.val.toList.length) := ⟨size124, size124⟩
    by_cases hq : e = f
    ·
     rw [decide_eq_true hq] at ht
     have Hq := Lib.hid hq; clear hq
     generalize e.val.toList = ce at ra ht Hsz
     generalize f.val.toList = cf at rb ht Hsz
     have ht' : ∀ W, (binOp .neq 124 (.agg ce.toArray) (.agg cf.toArray)).run Tryz.prog W = .ok (.bool false) W := ht
     clear ht
     go_upto_region 6 with fail
     refine wp_region_held_drew (S := fun W => W.rangeAt b (off + k * 6) ce ∧ W.rangeAt bb2 (off2 + k * 6) cf) (by kernel_rfl) (⟨ra, rb⟩) (fun hHeld => ?_)
     refine tkE (i := 0) rfl ?_
     refine tkE (i := 1) rfl ?_
     refine tkE (i := 2) rfl ?_
     refine ldE (i := 3) rfl rfl rfl (ce) (fun W h => h.1) Tryz.underlying124 rfl (Hsz.out.1) ?_
     refine tkE (i := 4) rfl ?_
     refine tkE (i := 5) rfl ?_
     refine tkE (i := 6) rfl ?_
     refine ldE (i := 7) rfl rfl rfl (cf) (fun W h => h.2) Tryz.underlying124 rfl (Hsz.out.2) ?_
     refine tkE (i := 8) rfl ?_
     refine wpAnyH_done (by kernel_rfl) ?_ _
     clear hHeld
     go_wp2
     go_roundw
     case rel =>
      refine ⟨k + 1, by omega, by go_num, ⟨q + 1, rfl⟩, fun j hj => ?_⟩
      rcases Nat.lt_succ_iff_lt_or_eq.1 hj with h1 | rfl
      ·
       exact Hj.out j h1
      ·
       rw [He.out, Hf.out, Hq.out]
     case measure => simp [intOf]; omega
    ·
     rw [decide_eq_false hq] at ht
     have Hq := Lib.hid hq; clear hq
     generalize e.val.toList = ce at ra ht Hsz
     generalize f.val.toList = cf at rb ht Hsz
     have ht' : ∀ W, (binOp .neq 124 (.agg ce.toArray) (.agg cf.toArray)).run Tryz.prog W = .ok (.bool true) W := ht
     clear ht
     go_upto_region 6 with fail
     refine wp_region_held_drew (S := fun W => W.rangeAt b (off + k * 6) ce ∧ W.rangeAt bb2 (off2 + k * 6) cf) (by kernel_rfl) (⟨ra, rb⟩) (fun hHeld => ?_)
     refine tkE (i := 0) rfl ?_
     refine tkE (i := 1) rfl ?_
     refine tkE (i := 2) rfl ?_
     refine ldE (i := 3) rfl rfl rfl (ce) (fun W h => h.1) Tryz.underlying124 rfl (Hsz.out.1) ?_
     refine tkE (i := 4) rfl ?_
     refine tkE (i := 5) rfl ?_
     refine tkE (i := 6) rfl ?_
     refine ldE (i := 7) rfl rfl rfl (cf) (fun W h => h.2) Tryz.underlying124 rfl (Hsz.out.2) ?_
     refine tkE (i := 8) rfl ?_
     refine wpAnyH_done (by kernel_rfl) ?_ _
     clear hHeld
     go_wp2
     go_ret
     refine ⟨ret_bool ?_, ⟨q + 1, rfl⟩⟩
     symm
     rw [decide_eq_false_iff_not]
     rintro rfl
     exact Hq.out (He.out.symm.trans Hf.out)
   ·
    obtain rfl : k = n := by omega
    go_wp2
    go_ret
    refine ⟨ret_bool ?_, ⟨_, rfl⟩⟩
    symm
    rw [decide_eq_true_eq]
    apply List.ext_getElem (by rw [Hx.out, Hy.out])
    intro j h1 h2
    have := Hj.out j (by rw [Hx.out] at h1; exact h1)
    simpa [List.getD, List.getElem?_eq_getElem h1, List.getElem?_eq_getElem h2] using this
 ·
  have q1 : ((n : Int) != (m : Int)) = true := by simp; omega
  go_enter Tryz.func64, Tryz.ntmps64
  go_wp2
  go_ret
  refine ⟨ret_bool ?_, ⟨0, rfl⟩⟩
  symm
  rw [decide_eq_false_iff_not]
  rintro rfl
  exact hnm (Hx.out.symm.trans Hy.out)
end Go.Proofs.YtmagppkclnebjaaGreatDoor
