/- dugoutlaw03.LineupTexts: it returns true at every game and string. -/
import Derived.Test.YtmagppkclnebjaaGreatDoorO7
import Derived.Test.YtmagppkclnebjaaGreatDoorB9
set_option linter.unusedVariables false
set_option linter.unusedSimpArgs false
set_option linter.unusedSimpArgs false
set_option linter.unusedVariables false
namespace Go.Proofs.YtmagppkclnebjaaGreatDoor
open Go.RowKit
open L

theorem parseR_ok (s : Str) : (parseR s).t.ok := by
 unfold parseR
 split
 ·
  exact Tms.zero_ok
 ·
  unfold parseLs
  split
  ·
   exact Tms.zero_ok
  ·
   split
   ·
    exact Tms.zero_ok
   ·
    split
    ·
     exact Tms.zero_ok
    ·
     exact pT_ok _ _ _ Tms.zero_ok
theorem parse_few (s : Str) (hs : s.size ≤ 4098) : (parseR s).l.length ≤ 100000 := by
 unfold parseR
 split
 ·
  exact Nat.zero_le _
 ·
  unfold parseLs
  split
  ·
   exact Nat.zero_le _
  ·
   split
   ·
    exact Nat.zero_le _
   ·
    split
    ·
     exact Nat.zero_le _
    ·
     have h1 := pL_len (linesOf s) 0
     have h2 := linesOf_len s
     have h3 := linesK_len s
     show (pL 0 (linesOf s)).length ≤ 100000
     omega
set_option maxHeartbeats 8000000 in
set_option maxRecDepth 100000 in
theorem txtLaw_any (t : Tms) (ht : t.ok) (l : List Chg) (A : Option Addr) (n c : Nat) (hn : l.length = n) (s : Str)
 (hsz : ∀ s ∈ t.l0.b ++ t.l1.b, s.size ≤ 9223372036854775807) (hszl : ∀ d ∈ l, d.name.size ≤ 9223372036854775807) (w : World) (hl : RdC w A l) (hE : Env w) (G : Array Value) (hG : G = (t.cells ++ [Value.slice A n c]).toArray) :
 Calls Tryz.prog 4 #[.agg G, .string s] w fun x w' => x = .returned (.bool true) ∧ Below w.heap.size w w' := by
 have haw : ∀ W, Below w.heap.size w W → Calls Tryz.prog 13 #[] W fun x w' => x = .returned (.bool true) ∧ Below W.heap.size W w' := fun W h => awake_any W (env_below hE h)
 obtain ⟨P, Gp, hP⟩ := gp_of1 t ht A n c G hG w
 have hrest : ∀ b, shortL t l = b → (b = true → (1500 < s.size ∧ s.size ≤ 4096) ∨ 4098 < s.size) → Calls Tryz.prog 4 #[.agg G, .string s] w fun x w' => x = .returned (.bool true) ∧ Below w.heap.size w w' := by
  intro b hv hlong
  have H21 : ∀ W, P W → Calls Tryz.prog 21 #[.agg (t.cells ++ [Value.slice A n c]).toArray] W fun x w' => x = .returned (.bool b) ∧ Below W.heap.size W w' := fun W h => by
   have := short_any t ht _ l A n c rfl hn W (hl.below (Gp.below _ h))
   rw [hv] at this; exact this
  have Haw : ∀ W, P W → Calls Tryz.prog 13 #[] W fun x w' => x = .returned (.bool true) ∧ Below W.heap.size W w' := fun W h => haw W (Gp.below _ h)
  have hgr := Gp.rg
  have hi49 := Gp.i49
  have Hgr := Lib.hid hgr; have Hi49 := Lib.hid hi49; have H21' := Lib.hid H21; have Haw' := Lib.hid Haw; have Hlong := Lib.hid hlong
  clear hv hG ht hn hsz hszl hl haw H21 Haw hgr hi49 hE hlong
  generalize (t.cells ++ [Value.slice A n c]) = gc at Hgr Hi49 H21'
  go_enter Tryz.func4, Tryz.ntmps4
  go_upto_region 1 with fail
  generalize (w.alloc (.cells G 49)) = W0 at hP ⊢
  go_cut [37] from 21 (fun s37 wr => s37 = .bool true ∧ P wr)
  case first =>
   cases b
   ·
    clear Hlong
    go_wp2_with (first
     | (go_at_call 13; (with_reducible refine (Haw'.out _ hP).mono ?_); rintro e w1 ⟨rfl, hb1⟩; have hP1 := Gp.kp _ _ hP hb1)
     | (refine wpList_load_cells_g 49 _ rfl w.heap.size 0 rfl gc (fun j hj => by rw [List.getElem?_eq_getElem hj]; exact Hgr.out _ hP1 j _ (List.getElem?_eq_getElem hj)) _ Tryz.underlying49 rfl Hi49.out rfl ?_)
     | (go_at_call 21; (with_reducible refine (H21'.out _ hP1).mono ?_); rintro e w2 ⟨rfl, hb2⟩; have hP2 := Gp.kp _ _ hP1 hb2))
    go_meet
    exact ⟨by first | rfl | simp, hP2⟩
   ·
    rcases Hlong.out rfl with h | h
    ·
     have a0 : (1500 : Int) < (s.size : Int) := by omega
     have b0 : decide ((1500 : Int) < (s.size : Int)) = true := decide_eq_true a0
     have a1 : (s.size : Int) ≤ 4096 := by omega
     have b1 : decide ((s.size : Int) ≤ 4096) = true := decide_eq_true a1
     clear Hlong h
     go_wp2_with (first
      | (go_at_call 13; (with_reducible refine (Haw'.out _ hP).mono ?_); rintro e w1 ⟨rfl, hb1⟩; have hP1 := Gp.kp _ _ hP hb1)
      | (refine wpList_load_cells_g 49 _ rfl w.heap.size 0 rfl gc (fun j hj => by rw [List.getElem?_eq_getElem hj]; exact Hgr.out _ hP1 j _ (List.getElem?_eq_getElem hj)) _ Tryz.underlying49 rfl Hi49.out rfl ?_)
      | (go_at_call 21; (with_reducible refine (H21'.out _ hP1).mono ?_); rintro e w2 ⟨rfl, hb2⟩; have hP2 := Gp.kp _ _ hP1 hb2))
     go_meet
     exact ⟨by first | rfl | simp, hP2⟩
    ·
     have a0 : (1500 : Int) < (s.size : Int) := by omega
     have b0 : decide ((1500 : Int) < (s.size : Int)) = true := decide_eq_true a0
     have a1 : ¬ (s.size : Int) ≤ 4096 := by omega
     have b1 : decide ((s.size : Int) ≤ 4096) = false := decide_eq_false a1
     have a2 : (4098 : Int) < (s.size : Int) := by omega
     have b2 : decide ((4098 : Int) < (s.size : Int)) = true := decide_eq_true a2
     clear Hlong h
     go_wp2_with (first
      | (go_at_call 13; (with_reducible refine (Haw'.out _ hP).mono ?_); rintro e w1 ⟨rfl, hb1⟩; have hP1 := Gp.kp _ _ hP hb1)
      | (refine wpList_load_cells_g 49 _ rfl w.heap.size 0 rfl gc (fun j hj => by rw [List.getElem?_eq_getElem hj]; exact Hgr.out _ hP1 j _ (List.getElem?_eq_getElem hj)) _ Tryz.underlying49 rfl Hi49.out rfl ?_)
      | (go_at_call 21; (with_reducible refine (H21'.out _ hP1).mono ?_); rintro e w2 ⟨rfl, hb2⟩; have hP2 := Gp.kp _ _ hP1 hb2))
     go_meet
     exact ⟨by first | rfl | simp, hP2⟩
  case rest =>
   obtain ⟨rfl, hP2⟩ := hcut
   clear hP
   go_wp2_with (go_at_call 13; refine (Haw'.out _ hP2).mono ?_; rintro e w3 ⟨rfl, hb3⟩)
   go_ret
   exact ⟨rfl, Gp.below _ (Gp.kp _ _ hP2 hb3)⟩
 by_cases hv : shortL t l = true
 ·
  by_cases hs : s.size ≤ 4098 ∧ (s.size ≤ 1500 ∨ 4096 < s.size)
  ·
   have hn8 : n ≤ 9223372036854775807 := by
    have := (short_parts hv).1
    rw [hn] at this
    simp [shortN] at this
    omega
   have hpt := parseR_ok s
   have hE46 : ∀ W, (binOp .eql 46 (.agg (parseR s).t.cells.toArray) (.agg (parseR s).t.cells.toArray)).run Tryz.prog W = .ok (.bool true) W := fun W => by rw [op_eql46 W _ _ hpt hpt]; simp
   exact txt_main P w t.cells A n c l _ s _ _ _ _ _ _ Gp (tc_of t ht) (txt_facts P w t ht l A n c hn s hs.1 hsz hszl hl hE haw Gp hv hn8) hs (Lib.hid ⟨rfl, parse_few s hs.1⟩) (Lib.hid hE46) (fun W => own_any _ hpt _ rfl W) G hP
  ·
   exact hrest true hv (fun _ => by omega)
 ·
  exact hrest false (by simpa using hv) (fun h => by cases h)
end Go.Proofs.YtmagppkclnebjaaGreatDoor
