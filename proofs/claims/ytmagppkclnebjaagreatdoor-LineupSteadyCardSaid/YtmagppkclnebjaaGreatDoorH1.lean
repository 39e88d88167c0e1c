/- The law's list, words, spans, short, valid; the reference's Short, Who, Names. -/
import Derived.Test.YtmagppkclnebjaaGreatDoorQd
import Derived.Test.YtmagppkclnebjaaGreatDoorB6
import Derived.Test.YtmagppkclnebjaaGreatDoorB1
import Derived.Test.YtmagppkclnebjaaGreatDoorQp
import Derived.OwnWalk
set_option linter.unusedVariables false
set_option linter.unusedSimpArgs false
set_option linter.unusedSimpArgs false
set_option linter.unusedVariables false
namespace Go.Proofs.YtmagppkclnebjaaGreatDoor
open Go.RowKit
open L

theorem g_range {W : World} {g : Nat} {ty : TypeId} {t : Tms} {v : Value} (h : Bk W g ty (t.cells ++ [v]).toArray) : W.rangeAt g 0 t.cells := fun j u hu => by
 rw [h.cell, List.getElem?_toArray, Nat.zero_add, List.getElem?_append_left (List.getElem?_eq_some_iff.1 hu).1]; exact hu
theorem g_slice {W : World} {g : Nat} {ty : TypeId} {t : Tms} (ht : t.ok) {v : Value} (h : Bk W g ty (t.cells ++ [v]).toArray) : W.cell? ⟨g, 36, none⟩ = some v := by
 rw [h.cell, List.getElem?_toArray, List.getElem?_append_right (by rw [Tms.cells_len t ht]; exact Nat.le_refl _), Tms.cells_len t ht]; rfl
theorem info142 : (Tryz.prog.info? 142).map (fun i => (i.zero, i.size, i.bytes)) = some (some (.agg #[.int .i64 0, .int .i64 0, .int .i64 0, .string { data := #[] }, .int .i64 0]), 5, 48) := by kernel_rfl

set_option maxHeartbeats 2000000 in
theorem list_any (l : List Chg) (A : Option Addr) (n c : Nat) (hn : l.length = n) (hle : n ≤ 100000) (w : World) (hl : RdC w A l) :
 Calls Tryz.prog 24 #[.slice A n c] w fun x w' => (∃ B d, x = .returned (.slice B n d) ∧ RdC w' B l ∧ ∀ a, B = some a → w.heap.size ≤ a.block ∧ a.block < w'.heap.size) ∧ Below w.heap.size w w' := by
 obtain ⟨i0, hi, hz0, hz1, hz2⟩ := info_parts info142
 have Hn := Lib.hid hn; have Hl := Lib.hid hl
 clear hn hl
 go_enter Tryz.func24, Tryz.ntmps24
 go_wp2
 go_loopw [3, 7] (fun v i wr => ∃ k : Nat, k ≤ n ∧ i = .int .i64 k ∧ Below w.heap.size w wr ∧ wr.ownsRow w.heap.size 142 5 v k (flatC (l.take k))) (fun _ i _ => n - (intOf i).toNat)
 case atStart => exact ⟨0, by omega, rfl, Below.refl _ _, World.ownsRow_nil _ _ _ _⟩
 case round =>
  obtain ⟨k, hk, rfl, hb, hown⟩ := hrel
  have Hb := Lib.hid hb; have Hown := Lib.hid hown
  clear hb hown
  by_cases hkn : k < n
  ·
   obtain ⟨b, off, rfl, hc⟩ := Hl.out k (by rw [Hn.out]; exact hkn)
   have hb0 : b < w.heap.size := World.block_lt_of_cell? w ⟨b, off + k * 5 + 0, none⟩ (u := .int .i64 (l.getD k noChg).side) (by rw [hc 0 (by omega)]; rfl)
   have hcell : ∀ j, j < 5 → wr.cell? ⟨b, off + k * 5 + j, none⟩ = (l.getD k noChg).val[j]? := fun j hj => by
    rw [Hb.out.cell (p := ⟨b, off + k * 5 + j, none⟩) hb0]; exact hc j hj
   have htk : l.take (k + 1) = l.take k ++ [l.getD k noChg] := by
    have hkl : k < l.length := by rw [Hn.out]; exact hkn
    rw [List.take_succ_eq_append_getElem hkl]; simp [List.getD, List.getElem?_eq_getElem hkl]
   generalize l.getD k noChg = d at hcell htk
   have Htk := Lib.hid htk; clear htk hc
   have c0 : wr.cell? ⟨b, off + k * 5, none⟩ = some (.int .i64 d.side) := hcell 0 (by omega)
   have c1 : wr.cell? ⟨b, off + k * 5 + 1, none⟩ = some (.int .i64 d.play) := hcell 1 (by omega)
   have c2 : wr.cell? ⟨b, off + k * 5 + 2, none⟩ = some (.int .i64 d.slot) := hcell 2 (by omega)
   have c3 : wr.cell? ⟨b, off + k * 5 + 3, none⟩ = some (.string d.name) := hcell 3 (by omega)
   have c4 : wr.cell? ⟨b, off + k * 5 + 4, none⟩ = some (.int .i64 d.pos) := hcell 4 (by omega)
   clear hcell
   have hcs := new_cells wr #[.int .i64 d.side, .int .i64 d.play, .int .i64 d.slot, .string d.name, .int .i64 d.pos] 142
   have Hcs := Lib.hid hcs; clear hcs
   have hsz := Hb.out.size
   go_wp2_with (at_builtin; refine wpList_append_own _ rfl _ _ 56 rfl w.heap.size 142 i0 (.agg #[.int .i64 0, .int .i64 0, .int .i64 0, .string { data := #[] }, .int .i64 0]) 5 48 Tryz.underlying56 hi hz0 hz1 hz2 rfl (by decide) _ _ _ rfl (Hown.out.alloc _) ⟨wr.heap.size, 0, none⟩ 1 1 (#[.int .i64 d.side, .int .i64 d.play, .int .i64 d.slot, .string d.name, .int .i64 d.pos] : Array Value).toList rfl rfl Hcs.out (by simp [Value.oneCell']) (by unfold maxLen; omega) (by omega) (by simp; omega) ?_; intro v' w5 hown' hgrow hnil)
   go_roundw
   case rel =>
    refine ⟨k + 1, by omega, by go_num, (bt_alloc Hb.out _).grown hgrow (by simp; omega) (fun r e => (Hown.out.lt r e).1), ?_⟩
    rw [Htk.out, flatC_append, flatC_one]
    exact hown'
   case measure => simp [intOf]; omega
  ·
   obtain rfl : k = n := by omega
   have e0 : l.take k = l := List.take_of_length_le (by rw [Hn.out]; exact Nat.le_refl _)
   rw [e0] at Hown
   obtain ⟨h1, B, d, rfl, hr⟩ := SlK.of_own Hown.out
   have hrd : Hid (RdC wr B l ∧ ∀ a, B = some a → w.heap.size ≤ a.block ∧ a.block < wr.heap.size) := ⟨RdC.of_slk ⟨h1, B, d, rfl, hr⟩, fun a e => by subst e; exact Hown.out.lt a.block rfl⟩
   clear h1 hr
   go_wp2
   go_ret
   exact ⟨⟨B, d, rfl, hrd.out⟩, Hb.out⟩

theorem words_ok (xs : List Str) (A B : Option Addr) (n c d : Nat) (w : World) (hx : xs.length = n) (hle : n ≤ 100000) (h1 : Rd w A (xs.map .string)) (h2 : Rd w B (xs.map .string)) :
 Calls Tryz.prog 42 #[.slice A n c, .int .i64 0, .int .i64 0, .slice B n d] w fun x w' => x = .returned (.bool true) ∧ ∃ q, w' = w.drewN q := by
 have H := Lib.hid (sameWords_any xs xs A B n n c d w hx hx (by omega) h1 h2)
 clear hx hle h1 h2
 go_enter Tryz.func42, Tryz.ntmps42
 go_wp2_with (go_at_call 32; refine H.out.mono ?_; rintro e w' ⟨rfl, q, rfl⟩)
 go_ret
 exact ⟨ret_bool (by simp), q, rfl⟩
theorem words_bad (A B : Option Addr) (c m d : Nat) (bad : Int) (hb : bad ≠ 0) (w : World) :
 Calls Tryz.prog 42 #[.slice A 0 c, .int .i64 bad, .int .i64 bad, .slice B m d] w fun x w' => x = .returned (.bool true) ∧ w = w' := by
 have hz : (bad != 0) = true := by simpa using hb
 clear hb
 go_enter Tryz.func42, Tryz.ntmps42
 go_wp2
 go_ret
 exact ⟨ret_bool (by simp), rfl⟩
theorem spans_ok (S : List Sti) (A B : Option Addr) (n c d : Nat) (w : World) (hx : S.length = n) (hle : n ≤ 100000) (h1 : RdS w A S) (h2 : RdS w B S) :
 Calls Tryz.prog 48 #[.slice A n c, .int .i64 0, .int .i64 0, .slice B n d] w fun x w' => x = .returned (.bool true) ∧ Below w.heap.size w w' := by
 have H65 := Lib.hid (stintsLaw_any S A n c hx hle w h1)
 have H64 : Hid (∀ (W : World) (A' : Option Addr) (c' : Nat), Below w.heap.size w W → RdS W A' S → Calls Tryz.prog 64 #[.slice A' n c', .slice B n d] W fun x w' => x = .returned (.bool (decide (S = S))) ∧ ∃ q, w' = W.drewN q) := fun W A' c' hb hr => sameStints_any S S A' B n n c' d W hx hx hle hr (h2.below hb)
 clear hx hle h1 h2
 go_enter Tryz.func48, Tryz.ntmps48
 go_wp2_with (first
  | (go_at_call 65; refine H65.out.mono ?_; rintro e w1 ⟨⟨v, rfl, hv⟩, hb⟩; obtain ⟨A', c', rfl⟩ := slk_form hv)
  | (go_at_call 64; refine (H64.out _ _ _ hb (RdS.of_slk hv)).mono ?_; rintro e w2 ⟨rfl, q, rfl⟩))
 go_ret
 exact ⟨ret_bool (by simp), bt_drewN hb q⟩
theorem spans_bad (A B : Option Addr) (c m d : Nat) (bad : Int) (hb : bad ≠ 0) (w : World) :
 Calls Tryz.prog 48 #[.slice A 0 c, .int .i64 bad, .int .i64 bad, .slice B m d] w fun x w' => x = .returned (.bool true) ∧ w = w' := by
 have hz : (bad != 0) = true := by simpa using hb
 clear hb
 go_enter Tryz.func48, Tryz.ntmps48
 go_wp2
 go_ret
 exact ⟨ret_bool (by simp), rfl⟩

/-- short names, and few changes or too many -/
def L.shortN (n : Nat) : Bool := !(decide (8 < n ∧ n ≤ 64) || decide (66 < n))
def L.shortL (t : Tms) (l : List Chg) : Bool := shortN l.length && (t.l0.b ++ t.l1.b).all (fun s => decide (s.size ≤ 60)) && l.all (fun d => decide (d.name.size ≤ 60))
theorem short_no (t : Tms) (l : List Chg) (h : shortN l.length = false) : shortL t l = false := by unfold shortL; rw [h]; simp
theorem short_bad1 (t : Tms) (l : List Chg) (s : Str) (hs : s ∈ t.l0.b ++ t.l1.b) (h : 60 < s.size) : shortL t l = false := by
 unfold shortL
 have : (t.l0.b ++ t.l1.b).all (fun s => decide (s.size ≤ 60)) = false := by
  rw [List.all_eq_false]; exact ⟨s, hs, by simp; omega⟩
 rw [this]; simp
theorem short_bad2 (t : Tms) (l : List Chg) (d : Chg) (hd : d ∈ l) (h : 60 < d.name.size) : shortL t l = false := by
 unfold shortL
 have : l.all (fun d => decide (d.name.size ≤ 60)) = false := by
  rw [List.all_eq_false]; exact ⟨d, hd, by simp; omega⟩
 rw [this]; simp
theorem short_yes (t : Tms) (l : List Chg) (h0 : shortN l.length = true) (h1 : ∀ s ∈ t.l0.b ++ t.l1.b, s.size ≤ 60) (h2 : ∀ d ∈ l, d.name.size ≤ 60) : shortL t l = true := by
 unfold shortL
 rw [h0]
 simp only [Bool.true_and, Bool.and_eq_true, List.all_eq_true, decide_eq_true_eq]
 exact ⟨h1, h2⟩
theorem short_parts {t : Tms} {l : List Chg} (h : shortL t l = true) : shortN l.length = true ∧ (∀ s ∈ t.l0.b ++ t.l1.b, s.size ≤ 60) ∧ ∀ d ∈ l, d.name.size ≤ 60 := by
 unfold shortL at h
 simp only [Bool.and_eq_true, List.all_eq_true, decide_eq_true_eq] at h
 exact ⟨h.1.1, h.1.2, h.2⟩
/-- the name at one of the 18 places -/
def nm18 (t : Tms) (k : Nat) : Str := (t.l0.b ++ t.l1.b).getD k .empty
theorem nm18_mem (t : Tms) (ht : t.ok) (k : Nat) (hk : k < 18) : nm18 t k ∈ t.l0.b ++ t.l1.b := by
 have : k < (t.l0.b ++ t.l1.b).length := by rw [List.length_append, ht.1.1, ht.2.1]; exact hk
 simp [nm18, List.getD, List.getElem?_eq_getElem this]
theorem mem_nm18 (t : Tms) (ht : t.ok) (s : Str) (hs : s ∈ t.l0.b ++ t.l1.b) : ∃ k, k < 18 ∧ nm18 t k = s := by
 obtain ⟨k, hk, rfl⟩ := List.getElem_of_mem hs
 refine ⟨k, by rw [List.length_append, ht.1.1, ht.2.1] at hk; exact hk, ?_⟩
 simp only [nm18, List.getD, List.getElem?_eq_getElem hk, Option.getD_some]
theorem cell18 {W : World} {g : Nat} {ty : TypeId} {t : Tms} (ht : t.ok) (h : Bk W g ty t.cells.toArray) (k : Nat) (hk : k < 18) : W.cell? ⟨g, (k / 9) * 18 + k % 9, none⟩ = some (.string (nm18 t k)) := by
 rw [h.cell, List.getElem?_toArray]
 by_cases h9 : k < 9
 ·
  rw [show k / 9 * 18 + k % 9 = k by omega, Tms.cell_b0 t ht k h9]
  unfold nm18
  simp only [List.getD]
  rw [List.getElem?_append_left (by rw [ht.1.1]; exact h9)]
 ·
  rw [show k / 9 * 18 + k % 9 = 18 + (k - 9) by omega, Tms.cell_b1 t ht (k - 9) (by omega)]
  unfold nm18
  simp only [List.getD]
  rw [List.getElem?_append_right (by rw [ht.1.1]; omega), ht.1.1]

set_option maxHeartbeats 2000000 in
set_option maxRecDepth 100000 in
theorem refShort_any (t : Tms) (ht : t.ok) (T : Array Value) (hT : T = t.cells.toArray) (l : List Chg) (A : Option Addr) (n c : Nat) (hn : l.length = n) (w : World) (hl : RdC w A l) :
 Calls Tryz.prog 70 #[.agg T, .slice A n c, .int .i64 8] w fun x w' => x = .returned (.bool (shortL t l)) ∧ Below w.heap.size w w' := by
 have F : Hid (Below w.heap.size w (w.alloc (.cells T 46)) ∧ Bk (w.alloc (.cells T 46)) w.heap.size 46 t.cells.toArray) := ⟨bt_new w _, by rw [← hT]; exact Bk.new w 46 T⟩
 have Ht := Lib.hid ht; have Hn := Lib.hid hn; have Hl := Lib.hid hl
 clear ht hn hl hT
 by_cases h1 : 8 < n ∧ n ≤ 64
 ·
  have a1 : (8 : Int) < (n : Int) := by omega
  have a2 : (n : Int) ≤ 64 := by omega
  have hs : Hid (shortL t l = false) := short_no t l (by rw [Hn.out]; unfold shortN; rw [decide_eq_true h1]; rfl)
  clear h1
  go_enter Tryz.func70, Tryz.ntmps70
  go_upto_region 1 with fail
  generalize (w.alloc (.cells T 46)) = W0 at F ⊢
  go_wp2
  go_ret
  exact ⟨ret_bool (by rw [hs.out]), F.out.1⟩
 by_cases h2 : 66 < n
 ·
  have a1 : (8 : Int) < (n : Int) := by omega
  have a2 : ¬ (n : Int) ≤ 64 := by omega
  have a3 : (66 : Int) < (n : Int) := by omega
  have hs : Hid (shortL t l = false) := short_no t l (by rw [Hn.out]; unfold shortN; rw [decide_eq_true h2]; simp)
  clear h1 h2
  go_enter Tryz.func70, Tryz.ntmps70
  go_upto_region 1 with fail
  generalize (w.alloc (.cells T 46)) = W0 at F ⊢
  go_wp2
  go_ret
  exact ⟨ret_bool (by rw [hs.out]), F.out.1⟩
 have HN : Hid (shortN l.length = true) := by
  show _ = _
  rw [Hn.out]; unfold shortN; rw [decide_eq_false h1, decide_eq_false h2]; rfl
 have h3 : n ≤ 8 ∨ 64 < n := by omega
 have h4 : n ≤ 66 := by omega
 clear h1 h2
 go_enter Tryz.func70, Tryz.ntmps70
 go_upto_region 1 with fail
 generalize (w.alloc (.cells T 46)) = W0 at F ⊢
 go_cut [22] from 22 (fun s22 wr => s22 = .bool false ∧ wr = W0)
 case first =>
  rcases h3 with h8 | h64
  ·
   have a1 : ¬ (8 : Int) < (n : Int) := by omega
   have a3 : ¬ (66 : Int) < (n : Int) := by omega
   have b1 : decide ((8 : Int) < (n : Int)) = false := decide_eq_false a1
   have b3 : decide ((66 : Int) < (n : Int)) = false := decide_eq_false a3
   clear h8 h4
   go_wp2
   go_meet
   exact ⟨by simp, rfl⟩
  ·
   have a1 : (8 : Int) < (n : Int) := by omega
   have a2 : ¬ (n : Int) ≤ 64 := by omega
   have a3 : ¬ (66 : Int) < (n : Int) := by omega
   have b1 : decide ((8 : Int) < (n : Int)) = true := decide_eq_true a1
   have b2 : decide ((n : Int) ≤ 64) = false := decide_eq_false a2
   have b3 : decide ((66 : Int) < (n : Int)) = false := decide_eq_false a3
   clear h64 h4
   go_wp2
   go_meet
   exact ⟨by simp, rfl⟩
 case rest =>
  obtain ⟨rfl, rfl⟩ := hcut
  clear h3
  go_upto_region 4 with fail
  go_loop [7] (fun i => ∃ k : Nat, k ≤ 18 ∧ i = .int .i64 k ∧ ∀ j, j < k → (nm18 t j).size ≤ 60) (fun i => 18 - (intOf i).toNat)
  case atStart => exact ⟨0, Nat.zero_le _, rfl, fun j hj => by omega⟩
  case round =>
   obtain ⟨k, hk, rfl, hsz⟩ := hrel
   have Hsz := Lib.hid hsz; clear hsz
   by_cases hk18 : k < 18
   ·
    have hc := cell18 Ht.out F.out.2 k hk18
    have hmem := Lib.hid (nm18_mem t Ht.out k hk18)
    have q0 : (0 : Int) ≤ (k : Int) := by omega
    have q1 : (k : Int) < 18 := by omega
    obtain ⟨a, ha, hae, hq, hw⟩ : ∃ a : Nat, a < 2 ∧ k / 9 = a ∧ (k : Int).tdiv 9 = (a : Int) ∧ IntKind.i64.wrap ((k : Int).tdiv 9) = (a : Int) := by
     have e : (k : Int).tdiv 9 = ((k / 9 : Nat) : Int) := by rw [Int.tdiv_eq_ediv_of_nonneg (by omega)]; omega
     exact ⟨k / 9, by omega, rfl, e, by rw [e, IntWalk.i64_in _ (by omega)]⟩
    obtain ⟨r, hr9, hre, hm, hw2⟩ : ∃ r : Nat, r < 9 ∧ k % 9 = r ∧ (k : Int).tmod 9 = (r : Int) ∧ IntKind.i64.wrap ((k : Int).tmod 9) = (r : Int) := by
     have e : (k : Int).tmod 9 = ((k % 9 : Nat) : Int) := by rw [Int.tmod_eq_emod_of_nonneg (by omega)]; omega
     exact ⟨k % 9, by omega, rfl, e, by rw [e, IntWalk.i64_in _ (by omega)]⟩
    rw [hae, hre] at hc
    have a0 : (0 : Int) ≤ (a : Int) := by omega
    have a2 : (a : Int) < 2 := by omega
    have r0 : (0 : Int) ≤ (r : Int) := by omega
    have r9 : (r : Int) < 9 := by omega
    generalize hs : nm18 t k = s at hc hmem
    have Hs := Lib.hid hs
    clear hs hae hre
    by_cases h60 : 60 < s.size
    ·
     have h60' : (60 : Int) < (s.size : Int) := by omega
     have hsh := Lib.hid (short_bad1 t l s hmem.out h60)
     clear h60
     go_wp2
     go_ret
     exact ⟨ret_bool (by rw [hsh.out]), F.out.1⟩
    ·
     have h60' : ¬ (60 : Int) < (s.size : Int) := by omega
     have H60 := Lib.hid h60; clear h60
     go_wp2
     go_round
     case rel =>
      refine ⟨k + 1, by omega, by go_num, fun j hj => ?_⟩
      rcases Nat.lt_succ_iff_lt_or_eq.1 hj with h1 | rfl
      ·
       exact Hsz.out j h1
      ·
       rw [Hs.out]; have := H60.out; omega
     case measure => simp [intOf]; omega
   ·
    obtain rfl : k = 18 := by omega
    have Hall : Hid (∀ s ∈ t.l0.b ++ t.l1.b, s.size ≤ 60) := fun s hs => by
     obtain ⟨j, hj, rfl⟩ := mem_nm18 t Ht.out s hs
     exact Hsz.out j hj
    clear Hsz
    go_upto_region 9 with fail
    go_loop [8] (fun i => ∃ k : Nat, k ≤ n ∧ i = .int .i64 k ∧ ∀ j, j < k → (l.getD j noChg).name.size ≤ 60) (fun i => n - (intOf i).toNat)
    case atStart => exact ⟨0, Nat.zero_le _, rfl, fun j hj => by omega⟩
    case round =>
     obtain ⟨k, hk, rfl, hsz⟩ := hrel
     have Hsz := Lib.hid hsz; clear hsz
     by_cases hkn : k < n
     ·
      obtain ⟨b, off, rfl, hc⟩ := Hl.out k (by rw [Hn.out]; exact hkn)
      have hb0 : b < w.heap.size := World.block_lt_of_cell? w ⟨b, off + k * 5 + 0, none⟩ (u := .int .i64 (l.getD k noChg).side) (by rw [hc 0 (by omega)]; rfl)
      have c3 : wc.cell? ⟨b, off + k * 5 + 3, none⟩ = some (.string (l.getD k noChg).name) := by
       rw [F.out.1.cell (p := ⟨b, off + k * 5 + 3, none⟩) hb0]; exact hc 3 (by omega)
      have hmem : Hid (l.getD k noChg ∈ l) := by
       have hkl : k < l.length := by rw [Hn.out]; exact hkn
       show _ ∈ _
       simp [List.getD, List.getElem?_eq_getElem hkl]
      clear hc
      generalize hd : l.getD k noChg = d at c3 hmem
      have Hd := Lib.hid hd; clear hd
      by_cases h60 : 60 < d.name.size
      ·
       have h60' : (60 : Int) < (d.name.size : Int) := by omega
       have hsh := Lib.hid (short_bad2 t l d hmem.out h60)
       clear h60
       go_wp2
       go_ret
       exact ⟨ret_bool (by rw [hsh.out]), F.out.1⟩
      ·
       have h60' : ¬ (60 : Int) < (d.name.size : Int) := by omega
       have H60 := Lib.hid h60; clear h60
       go_wp2
       go_round
       case rel =>
        refine ⟨k + 1, by omega, by go_num, fun j hj => ?_⟩
        rcases Nat.lt_succ_iff_lt_or_eq.1 hj with h1 | rfl
        ·
         exact Hsz.out j h1
        ·
         rw [Hd.out]; have := H60.out; omega
       case measure => simp [intOf]; omega
     ·
      obtain rfl : k = n := by omega
      have hsh : Hid (shortL t l = true) := short_yes t l HN.out Hall.out fun d hd => by
       obtain ⟨j, hj, rfl⟩ := List.getElem_of_mem hd
       have := Hsz.out j (by rw [← Hn.out]; exact hj)
       simpa [List.getD, List.getElem?_eq_getElem hj] using this
      go_wp2
      go_ret
      exact ⟨ret_bool (by rw [hsh.out]), F.out.1⟩
set_option maxHeartbeats 2000000 in
set_option maxRecDepth 100000 in
theorem short_any (t : Tms) (ht : t.ok) (G : Array Value) (l : List Chg) (A : Option Addr) (n c : Nat) (hG : G = (t.cells ++ [Value.slice A n c]).toArray) (hn : l.length = n) (w : World) (hl : RdC w A l) :
 Calls Tryz.prog 21 #[.agg G] w fun x w' => x = .returned (.bool (shortL t l)) ∧ Below w.heap.size w w' := by
 have F : Hid (Below w.heap.size w (w.alloc (.cells G 49)) ∧ Bk (w.alloc (.cells G 49)) w.heap.size 49 (t.cells ++ [Value.slice A n c]).toArray) := ⟨bt_new w _, by rw [← hG]; exact Bk.new w 49 G⟩
 have H70 : Hid (∀ W, Below w.heap.size w W → Calls Tryz.prog 70 #[.agg t.cells.toArray, .slice A n c, .int .i64 8] W fun x w' => x = .returned (.bool (shortL t l)) ∧ Below W.heap.size W w') := fun W hb => refShort_any t ht _ rfl l A n c hn W (hl.below hb)
 have Hi := Lib.hid (size46' t ht)
 have Ht := Lib.hid ht
 clear hG hn hl ht
 go_enter Tryz.func21, Tryz.ntmps21
 go_upto_region 1 with fail
 generalize (w.alloc (.cells G 49)) = W0 at F ⊢
 have r0 := g_range F.out.2
 have c36 := g_slice Ht.out F.out.2
 have hlt := F.out.2.lt
 generalize t.cells = tc at r0 H70 Hi
 go_wp2_with (first
  | (refine wpList_load_cells rfl 46 _ rfl w.heap.size 0 rfl tc (fun j hj => by rw [List.getElem?_eq_getElem hj]; exact r0 j _ (List.getElem?_eq_getElem hj)) _ Tryz.underlying46 rfl Hi.out ?_)
  | (go_at_call 70; refine (H70.out _ F.out.1).mono ?_; rintro e w1 ⟨rfl, hb1⟩))
 go_ret
 exact ⟨rfl, bt_trans F.out.1 hb1⟩
end Go.Proofs.YtmagppkclnebjaaGreatDoor
