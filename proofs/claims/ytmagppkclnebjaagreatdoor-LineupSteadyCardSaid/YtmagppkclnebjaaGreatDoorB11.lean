/- The reference: CheckLineup. -/
import Derived.Test.YtmagppkclnebjaaGreatDoorB10
set_option linter.unusedVariables false
set_option linter.unusedSimpArgs false
set_option linter.unusedSimpArgs false
namespace Go.Proofs.YtmagppkclnebjaaGreatDoor
open Go.RowKit
open L

theorem clB_at (l : List Str) (k : Nat) (hk : k < l.length) : clB (l.take k) (l.drop k) = if !isName (l.getD k .empty) then 8 else if l.getD k .empty ∈ l.take k then 9 else clB (l.take (k + 1)) (l.drop (k + 1)) := by
 rw [List.drop_eq_getElem_cons hk, List.take_succ_eq_append_getElem hk]
 have : l.getD k .empty = l[k] := by simp [List.getD, List.getElem?_eq_getElem hk]
 rw [this, clB]
theorem clP_at (l : List Int) (k : Nat) (hk : k < l.length) : clP (l.take k) (l.drop k) = if l.getD k 0 < 1 ∨ l.getD k 0 > 9 then 3 else if l.getD k 0 ∈ l.take k then 29 else clP (l.take (k + 1)) (l.drop (k + 1)) := by
 rw [List.drop_eq_getElem_cons hk, List.take_succ_eq_append_getElem hk]
 have : l.getD k 0 = l[k] := by simp [List.getD, List.getElem?_eq_getElem hk]
 rw [this, clP]
theorem mem_take_of {α : Type} (l : List α) (d s : α) (k i : Nat) (hk : k ≤ l.length) (hi : i < k) (h : l.getD i d = s) : s ∈ l.take k := by
 rw [List.mem_take_iff_getElem]
 refine ⟨i, by omega, ?_⟩
 rw [← h]; simp [List.getD, List.getElem?_eq_getElem (show i < l.length by omega)]
theorem not_mem_take {α : Type} (l : List α) (d s : α) (k : Nat) (hk : k ≤ l.length) (h : ∀ i, i < k → l.getD i d ≠ s) : s ∉ l.take k := fun hm => by
 rw [List.mem_take_iff_getElem] at hm
 obtain ⟨i, hi, e⟩ := hm
 have hi' : i < k ∧ i < l.length := by omega
 refine h i hi'.1 ?_
 rw [← e]; simp [List.getD, List.getElem?_eq_getElem hi'.2]
theorem LU.cell_p' {W : World} {g : Nat} {ty : TypeId} {l : LU} (hl : l.ok) (h : Bk W g ty l.cells.toArray) (k : Nat) (hk : k < 9) : W.cell? ⟨g, 9 + k, none⟩ = some (.int .i64 (l.p.getD k 0)) := by
 rw [h.cell, List.getElem?_toArray]
 simp only [LU.cells]
 rw [List.getElem?_append_right (by simp [hl.1]), getD_map_int _ _ (by rw [hl.2]; exact hk)]
 simp [hl.1]

set_option maxHeartbeats 2000000 in
theorem refLineup_any (l : LU) (hl : l.ok) (A : Array Value) (hA : A = l.cells.toArray) (hsz : ∀ s ∈ l.b, s.size ≤ 9223372036854775807) (w : World) :
 Calls Tryz.prog 16 #[.agg A] w fun x w' => x = .returned (.int .i64 (checkLineup l)) ∧ Below w.heap.size w w' := by
 have hbk : Bk (w.alloc (.cells A 25)) w.heap.size 25 l.cells.toArray := by rw [← hA]; exact Bk.new _ _ _
 have Hbk := Lib.hid hbk; have Hl := Lib.hid hl; have Hsz := Lib.hid hsz
 have Hbw := Lib.hid (bt_new w (.cells A 25))
 clear hbk hA hl hsz
 go_enter Tryz.func16, Tryz.ntmps16
 go_upto_region 2 with fail
 generalize (w.alloc (.cells A 25)) = W0 at Hbk Hbw ⊢
 generalize hg : w.heap.size = g at Hbk ⊢
 have HBW : Hid (∀ q, Below w.heap.size w (W0.drewN q)) := fun q => bt_drewN Hbw.out q
 clear Hbw hg
 go_loopw [3] (fun i wr => ∃ k : Nat, k ≤ 9 ∧ i = .int .i64 k ∧ (∃ q, wr = W0.drewN q) ∧ clB [] l.b = clB (l.b.take k) (l.b.drop k)) (fun i _ => 9 - (intOf i).toNat)
 case atStart => exact ⟨0, Nat.zero_le _, rfl, ⟨0, rfl⟩, rfl⟩
 case round =>
  obtain ⟨k, hk, rfl, ⟨q, rfl⟩, hcl⟩ := hrel
  have Hcl := Lib.hid hcl; clear hcl
  by_cases hlt : k < 9
  ·
   have hkl : k < l.b.length := by rw [Hl.out.1]; exact hlt
   have hc1 : (W0.drewN q).cell? ⟨g, k, none⟩ = some (.string (l.b.getD k .empty)) := LU.cell_b Hl.out (Hbk.out.drewN q) k hlt
   have hat := clB_at l.b k hkl
   have hss : (l.b.getD k .empty).size ≤ 9223372036854775807 := Hsz.out _ (by simp [List.getD, List.getElem?_eq_getElem hkl])
   have hckk : ∀ q', (W0.drewN q').cell? ⟨g, k, none⟩ = some (.string (l.b.getD k .empty)) := fun q' => LU.cell_b Hl.out (Hbk.out.drewN q') k hlt
   generalize hs : l.b.getD k .empty = s at hc1 hat hss hckk
   have Hat := Lib.hid hat; have Hs := Lib.hid hs; have Hck := Lib.hid hckk
   clear hat hs hckk
   have hcn := refName_any s hss (W0.drewN q)
   cases hN : isName s
   ·
    rw [hN] at hcn
    have Hcn := Lib.hid hcn; have HN := Lib.hid hN; clear hcn hN
    go_wp2_with (go_at_call 52; refine Hcn.out.mono ?_; rintro e w' ⟨rfl, rfl⟩)
    go_ret
    refine ⟨ret_int ?_, HBW.out q⟩
    have e8 : clB [] l.b = 8 := by rw [Hcl.out, Hat.out, HN.out]; rfl
    unfold checkLineup; rw [e8]; rfl
   ·
    rw [hN] at hcn
    have Hcn := Lib.hid hcn; have HN := Lib.hid hN; clear hcn hN
    go_upto_region 6 with (go_at_call 52; refine Hcn.out.mono ?_; rintro e w' ⟨rfl, rfl⟩)
    clear Hcn hc1
    go_upto_region 7 with fail
    obtain ⟨W1, hW1⟩ : ∃ W1 : World, W1 = W0.drewN q := ⟨_, rfl⟩
    go_loopw [4] (fun j wr => ∃ m : Nat, m ≤ k ∧ j = .int .i64 m ∧ (∃ q, wr = W0.drewN q) ∧ ∀ i, i < m → l.b.getD i .empty ≠ s) (fun j _ => k - (intOf j).toNat)
    case atStart => exact ⟨0, Nat.zero_le _, rfl, ⟨q, rfl⟩, fun i hi => by omega⟩
    case round =>
     obtain ⟨m, hm, rfl, ⟨q2, rfl⟩, hne⟩ := hrel
     have Hne := Lib.hid hne; clear hne hW1
     by_cases hmk : m < k
     ·
      have d1 : (W0.drewN q2).cell? ⟨g, m, none⟩ = some (.string (l.b.getD m .empty)) := LU.cell_b Hl.out (Hbk.out.drewN q2) m (by omega)
      have d2 := Hck.out q2
      generalize hf : l.b.getD m .empty = f at d1
      have Hf := Lib.hid hf; clear hf
      have q0 : (0 : Int) ≤ (k : Int) := by omega
      have q1 : (k : Int) < 9 := by omega
      have q3 : (0 : Int) ≤ (m : Int) := by omega
      have q4 : (m : Int) < 9 := by omega
      by_cases hfs : f = s
      ·
       have ht := tl_eq hfs
       have Hfs := Lib.hid hfs; clear hfs
       go_upto_region 9 with fail
       refine wp_region_held_drew (S := fun W => W.cell? ⟨g, m, none⟩ = some (.string f) ∧ W.cell? ⟨g, k, none⟩ = some (.string s)) (by kernel_rfl) (⟨d1, d2⟩) (fun hHeld => ?_)
       refine tkE (i := 0) rfl ?_
       refine tkE (i := 1) rfl ?_
       refine tkE (i := 2) rfl ?_
       refine tkE (i := 3) rfl ?_
       refine tkE (i := 4) rfl ?_
       refine tkE (i := 5) rfl ?_
       refine tkE (i := 6) rfl ?_
       refine tkE (i := 7) rfl ?_
       refine tkE (i := 8) rfl ?_
       refine wpAnyH_done (by kernel_rfl) ?_ _
       clear hHeld
       go_wp2
       go_ret
       refine ⟨ret_int ?_, HBW.out (_ + 1)⟩
       have hin : s ∈ l.b.take k := mem_take_of l.b .empty s k m (by rw [Hl.out.1]; omega) hmk (by rw [Hf.out, Hfs.out])
       have e9 : clB [] l.b = 9 := by rw [Hcl.out, Hat.out, HN.out, if_neg (by simp), if_pos hin]
       unfold checkLineup; rw [e9]; rfl
      ·
       have ht := tl_ne hfs
       have Hfs := Lib.hid hfs; clear hfs
       go_upto_region 9 with fail
       refine wp_region_held_drew (S := fun W => W.cell? ⟨g, m, none⟩ = some (.string f) ∧ W.cell? ⟨g, k, none⟩ = some (.string s)) (by kernel_rfl) (⟨d1, d2⟩) (fun hHeld => ?_)
       refine tkE (i := 0) rfl ?_
       refine tkE (i := 1) rfl ?_
       refine tkE (i := 2) rfl ?_
       refine tkE (i := 3) rfl ?_
       refine tkE (i := 4) rfl ?_
       refine tkE (i := 5) rfl ?_
       refine tkE (i := 6) rfl ?_
       refine tkE (i := 7) rfl ?_
       refine tkE (i := 8) rfl ?_
       refine wpAnyH_done (by kernel_rfl) ?_ _
       clear hHeld
       go_wp2
       go_roundw
       case rel =>
        refine ⟨m + 1, by omega, by go_num, ⟨_ + 1, rfl⟩, fun i hi => ?_⟩
        rcases Nat.lt_succ_iff_lt_or_eq.1 hi with h1 | rfl
        ·
         exact Hne.out i h1
        ·
         rw [Hf.out]; exact Hfs.out
       case measure => simp [intOf]; omega
     ·
      obtain rfl : m = k := by omega
      have hnin : s ∉ l.b.take m := not_mem_take l.b .empty s m (by rw [Hl.out.1]; omega) Hne.out
      have hcl2 : clB [] l.b = clB (l.b.take (m + 1)) (l.b.drop (m + 1)) := by rw [Hcl.out, Hat.out, HN.out, if_neg (by simp), if_neg hnin]
      have Hcl2 := Lib.hid hcl2; clear hcl2 hnin
      go_wp2
      go_roundw
      case rel => exact ⟨m + 1, by omega, by go_num, ⟨q2, rfl⟩, Hcl2.out⟩
      case measure => simp [intOf]; omega
  ·
   obtain rfl : k = 9 := by omega
   have e0 : ((9 : Nat) : Int) = 9 := rfl
   rw [e0]
   clear e0
   have hB0 : clB [] l.b = 0 := by rw [Hcl.out, List.drop_of_length_le (by rw [Hl.out.1]; exact Nat.le_refl _)]; rfl
   have HB0 := Lib.hid hB0; clear hB0 Hcl
   obtain ⟨WQ, hWQ⟩ : ∃ WQ : World, WQ = W0.drewN q := ⟨_, rfl⟩
   go_upto_region 12 with fail
   go_loopw [5] (fun i wr => ∃ k : Nat, k ≤ 9 ∧ i = .int .i64 k ∧ (∃ q, wr = W0.drewN q) ∧ clP [] l.p = clP (l.p.take k) (l.p.drop k)) (fun i _ => 9 - (intOf i).toNat)
   case atStart => exact ⟨0, Nat.zero_le _, rfl, ⟨q, rfl⟩, rfl⟩
   case round =>
    obtain ⟨k, hk, rfl, ⟨q2, rfl⟩, hcl⟩ := hrel
    have Hcl := Lib.hid hcl; clear hcl hWQ
    by_cases hlt : k < 9
    ·
     have hkl : k < l.p.length := by rw [Hl.out.2]; exact hlt
     have hc1 : (W0.drewN q2).cell? ⟨g, 9 + k, none⟩ = some (.int .i64 (l.p.getD k 0)) := LU.cell_p' Hl.out (Hbk.out.drewN q2) k hlt
     have hat := clP_at l.p k hkl
     have hckk : ∀ q', (W0.drewN q').cell? ⟨g, 9 + k, none⟩ = some (.int .i64 (l.p.getD k 0)) := fun q' => LU.cell_p' Hl.out (Hbk.out.drewN q') k hlt
     generalize hs : l.p.getD k 0 = s at hc1 hat hckk
     have Hat := Lib.hid hat; have Hs := Lib.hid hs; have Hck := Lib.hid hckk
     clear hat hs hckk
     by_cases h1 : s < 1
     ·
      go_wp2
      go_ret
      refine ⟨ret_int ?_, HBW.out _⟩
      have e3 : clP [] l.p = 3 := by rw [Hcl.out, Hat.out, if_pos (.inl h1)]
      unfold checkLineup; rw [HB0.out, e3]; rfl
     by_cases h2 : 9 < s
     ·
      go_wp2
      go_ret
      refine ⟨ret_int ?_, HBW.out _⟩
      have e3 : clP [] l.p = 3 := by rw [Hcl.out, Hat.out, if_pos (.inr h2)]
      unfold checkLineup; rw [HB0.out, e3]; rfl
     have Hr : Hid (¬ (s < 1 ∨ s > 9)) := fun h => by rcases h with h | h; exact h1 h; exact h2 h
     have hd1 : decide (s < 1) = false := decide_eq_false h1
     have hd2 : decide (9 < s) = false := decide_eq_false h2
     go_upto_region 16 with fail
     clear hc1 hd1 hd2
     go_upto_region 17 with fail
     obtain ⟨W1, hW1⟩ : ∃ W1 : World, W1 = W0.drewN q2 := ⟨_, rfl⟩
     go_loopw [6] (fun j wr => ∃ m : Nat, m ≤ k ∧ j = .int .i64 m ∧ (∃ q, wr = W0.drewN q) ∧ ∀ i, i < m → l.p.getD i 0 ≠ s) (fun j _ => k - (intOf j).toNat)
     case atStart => exact ⟨0, Nat.zero_le _, rfl, ⟨q2, rfl⟩, fun i hi => by omega⟩
     case round =>
      obtain ⟨m, hm, rfl, ⟨q3, rfl⟩, hne⟩ := hrel
      have Hne := Lib.hid hne; clear hne hW1
      by_cases hmk : m < k
      ·
       have d1 : (W0.drewN q3).cell? ⟨g, 9 + m, none⟩ = some (.int .i64 (l.p.getD m 0)) := LU.cell_p' Hl.out (Hbk.out.drewN q3) m (by omega)
       have d2 := Hck.out q3
       generalize hf : l.p.getD m 0 = f at d1
       have Hf := Lib.hid hf; clear hf
       have q0 : (0 : Int) ≤ (k : Int) := by omega
       have q1 : (k : Int) < 9 := by omega
       have q4 : (0 : Int) ≤ (m : Int) := by omega
       have q5 : (m : Int) < 9 := by omega
       by_cases hfs : f = s
       ·
        have ht : (f == s) = true := by simpa using hfs
        have Hfs := Lib.hid hfs; clear hfs
        go_upto_region 19 with fail
        refine wp_region_held_drew (S := fun W => W.cell? ⟨g, 9 + m, none⟩ = some (.int .i64 f) ∧ W.cell? ⟨g, 9 + k, none⟩ = some (.int .i64 s)) (by kernel_rfl) (⟨d1, d2⟩) (fun hHeld => ?_)
        refine tkE (i := 0) rfl ?_
        refine tkE (i := 1) rfl ?_
        refine tkE (i := 2) rfl ?_
        refine tkE (i := 3) rfl ?_
        refine tkE (i := 4) rfl ?_
        refine tkE (i := 5) rfl ?_
        refine tkE (i := 6) rfl ?_
        refine tkE (i := 7) rfl ?_
        refine tkE (i := 8) rfl ?_
        refine wpAnyH_done (by kernel_rfl) ?_ _
        clear hHeld
        go_wp2
        go_ret
        refine ⟨ret_int ?_, HBW.out (_ + 1)⟩
        have hin : s ∈ l.p.take k := mem_take_of l.p 0 s k m (by rw [Hl.out.2]; omega) hmk (by rw [Hf.out, Hfs.out])
        have e9 : clP [] l.p = 29 := by rw [Hcl.out, Hat.out, if_neg Hr.out, if_pos hin]
        unfold checkLineup; rw [HB0.out, e9]; rfl
       ·
        have ht : (f == s) = false := by simpa using hfs
        have Hfs := Lib.hid hfs; clear hfs
        go_upto_region 19 with fail
        refine wp_region_held_drew (S := fun W => W.cell? ⟨g, 9 + m, none⟩ = some (.int .i64 f) ∧ W.cell? ⟨g, 9 + k, none⟩ = some (.int .i64 s)) (by kernel_rfl) (⟨d1, d2⟩) (fun hHeld => ?_)
        refine tkE (i := 0) rfl ?_
        refine tkE (i := 1) rfl ?_
        refine tkE (i := 2) rfl ?_
        refine tkE (i := 3) rfl ?_
        refine tkE (i := 4) rfl ?_
        refine tkE (i := 5) rfl ?_
        refine tkE (i := 6) rfl ?_
        refine tkE (i := 7) rfl ?_
        refine tkE (i := 8) rfl ?_
        refine wpAnyH_done (by kernel_rfl) ?_ _
        clear hHeld
        go_wp2
        go_roundw
        case rel =>
         refine ⟨m + 1, by omega, by go_num, ⟨_ + 1, rfl⟩, fun i hi => ?_⟩
         rcases Nat.lt_succ_iff_lt_or_eq.1 hi with h1 | rfl
         ·
          exact Hne.out i h1
         ·
          rw [Hf.out]; exact Hfs.out
        case measure => simp [intOf]; omega
      ·
       obtain rfl : m = k := by omega
       have hnin : s ∉ l.p.take m := not_mem_take l.p 0 s m (by rw [Hl.out.2]; omega) Hne.out
       have hcl2 : clP [] l.p = clP (l.p.take (m + 1)) (l.p.drop (m + 1)) := by rw [Hcl.out, Hat.out, if_neg Hr.out, if_neg hnin]
       have Hcl2 := Lib.hid hcl2; clear hcl2 hnin
       go_wp2
       go_roundw
       case rel => exact ⟨m + 1, by omega, by go_num, ⟨q3, rfl⟩, Hcl2.out⟩
       case measure => simp [intOf]; omega
    ·
     obtain rfl : k = 9 := by omega
     have hP0 : clP [] l.p = 0 := by rw [Hcl.out, List.drop_of_length_le (by rw [Hl.out.2]; exact Nat.le_refl _)]; rfl
     have HP0 := Lib.hid hP0; clear hP0 Hcl
     go_wp2
     go_ret
     refine ⟨ret_int ?_, HBW.out _⟩
     unfold checkLineup; rw [HB0.out, HP0.out]; rfl
end Go.Proofs.YtmagppkclnebjaaGreatDoor
