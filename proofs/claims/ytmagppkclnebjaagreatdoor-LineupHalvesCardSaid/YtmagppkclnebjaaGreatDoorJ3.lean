/- dugoutlaw03.LineupHalves: it returns true at every game and pair of bytes. -/
import Derived.Test.YtmagppkclnebjaaGreatDoorJ2
set_option linter.unusedVariables false
set_option linter.unusedSimpArgs false
set_option linter.unusedSimpArgs false
set_option linter.unusedVariables false
namespace Go.Proofs.YtmagppkclnebjaaGreatDoor
open Go.RowKit
open L

set_option maxHeartbeats 8000000 in
set_option maxRecDepth 100000 in
theorem hlvLaw_any (t : Tms) (ht : t.ok) (l : List Chg) (A : Option Addr) (n c : Nat) (hn : l.length = n) (b0 b1 : Nat) (hb0 : b0 < 256) (hb1 : b1 < 256)
 (hsz : ∀ s ∈ t.l0.b ++ t.l1.b, s.size ≤ 9223372036854775807) (hszl : ∀ d ∈ l, d.name.size ≤ 9223372036854775807) (w : World) (hl : RdC w A l) (hE : Env w) (G : Array Value) (hG : G = (t.cells ++ [Value.slice A n c]).toArray) :
 Calls Tryz.prog 12 #[.agg G, .agg #[.int .u8 b0, .int .u8 b1]] w fun x w' => x = .returned (.bool true) ∧ Below w.heap.size w w' := by
 have haw : ∀ W, Below w.heap.size w W → Calls Tryz.prog 13 #[] W fun x w' => x = .returned (.bool true) ∧ Below W.heap.size W w' := fun W h => awake_any W (env_below hE h)
 obtain ⟨P, Gp, hP, hbx⟩ := gp_of2 t ht A n c G hG #[.int .u8 b0, .int .u8 b1] 117 w
 by_cases hv : validL t l = true
 ·
  have hx : ∀ X, P X → X.cell? ⟨w.heap.size + 1, 0, none⟩ = some (.int .u8 b0) ∧ X.cell? ⟨w.heap.size + 1, 1, none⟩ = some (.int .u8 b1) := fun X h => by
   have hb := hbx X h
   refine ⟨?_, ?_⟩ <;> rw [hb.cell] <;> rfl
  exact hlv_main P w t.cells _ _ A n c l _ _ _ (b1 % 16) (1 + b0 % 16) b0 b1 _ _ _ Gp hx (hlv_facts P w t ht l A n c 2 hn (b1 % 16) (by omega) hsz hszl hl haw Gp hv) ⟨hb0, hb1, rfl, rfl⟩ G hP
 ·
  have H34 : ∀ W, P W → Calls Tryz.prog 34 #[.agg (t.cells ++ [Value.slice A n c]).toArray] W fun x w' => x = .returned (.bool false) ∧ Below W.heap.size W w' := fun W h => by
   have := valid_any t ht _ l A n c rfl hn hsz hszl W (hl.below (Gp.below _ h))
   rw [show validL t l = false by simpa using hv] at this; exact this
  have Haw : ∀ W, P W → Calls Tryz.prog 13 #[] W fun x w' => x = .returned (.bool true) ∧ Below W.heap.size W w' := fun W h => haw W (Gp.below _ h)
  have hgr := Gp.rg
  have hi49 := Gp.i49
  have hx : ∀ X, P X → (X.cell? ⟨w.heap.size + 1, 0, none⟩ = some (.int .u8 b0) ∧ X.cell? ⟨w.heap.size + 1, 1, none⟩ = some (.int .u8 b1)) ∧ P X := fun X h => by
   have hb := hbx X h
   refine ⟨⟨?_, ?_⟩, h⟩ <;> rw [hb.cell] <;> rfl
  have Hgr := Lib.hid hgr; have Hi49 := Lib.hid hi49; have H34' := Lib.hid H34; have Haw' := Lib.hid Haw; have HS := Lib.hid hx
  clear hv hG ht hn hsz hszl hl haw H34 Haw hgr hi49 hE hbx hx
  generalize (t.cells ++ [Value.slice A n c]) = gc at Hgr Hi49 H34'
  go_enter Tryz.func12, Tryz.ntmps12
  go_upto_region 1 with fail
  generalize ((w.alloc (.cells G 49)).alloc (.cells #[.int .u8 b0, .int .u8 b1] 117)) = W0 at hP ⊢
  go_cut [5, 6] from 29 (fun s5 s6 wr => P wr)
  case first =>
   as_aux_lemma =>
    have hS0 := HS.out _ (Gp.kp _ _ hP (bt_drew (Below.refl _ W0)))
    refine wp_region_held_drew (S := (fun X => (X.cell? ⟨w.heap.size + 1, 0, none⟩ = some (.int .u8 b0) ∧ X.cell? ⟨w.heap.size + 1, 1, none⟩ = some (.int .u8 b1)) ∧ P X)) (by kernel_rfl) (hS0) (fun hHeld => ?_)
    refine tkE (i := 0) rfl ?_
    refine tkE (i := 1) rfl ?_
    refine tkE (i := 2) rfl ?_
    refine tkE (i := 3) rfl ?_
    refine tkE (i := 4) rfl ?_
    refine tkE (i := 5) rfl ?_
    refine tkE (i := 6) rfl ?_
    refine tkE (i := 7) rfl ?_
    refine tkE (i := 8) rfl ?_
    refine tkE (i := 9) rfl ?_
    refine tkE (i := 10) rfl ?_
    refine wpAnyH_done (by kernel_rfl) ?_ _
    go_wp2_with fail
    go_meet
    exact hHeld.2
  case rest =>
   clear hP
   generalize wc = W1 at hcut ⊢
   go_wp2_with (first
    | (go_at_call 13; refine (Haw'.out _ hcut).mono ?_; rintro e w1 ⟨rfl, hb1⟩; have hP1 := Gp.kp _ _ hcut hb1)
    | (refine wpList_load_cells_g 49 _ rfl w.heap.size 0 rfl gc (fun j hj => by rw [List.getElem?_eq_getElem hj]; exact Hgr.out _ hP1 j _ (List.getElem?_eq_getElem hj)) _ Tryz.underlying49 rfl Hi49.out rfl ?_)
    | (go_at_call 34; refine (H34'.out _ hP1).mono ?_; rintro e w2 ⟨rfl, hb2⟩; have hP2 := Gp.kp _ _ hP1 hb2))
   refine (Haw'.out _ hP2).mono ?_
   rintro e w3 ⟨rfl, hb3⟩
   go_wp2
   go_ret
   exact ⟨rfl, Gp.below _ (Gp.kp _ _ hP2 hb3)⟩
end Go.Proofs.YtmagppkclnebjaaGreatDoor
