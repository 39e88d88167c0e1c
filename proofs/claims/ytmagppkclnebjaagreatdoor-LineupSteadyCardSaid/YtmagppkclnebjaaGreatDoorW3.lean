/- dugoutlaw03.LineupSteady: it returns true at every game and byte. -/
import Derived.Test.YtmagppkclnebjaaGreatDoorW2
import Derived.Test.YtmagppkclnebjaaGreatDoorB9
set_option linter.unusedVariables false
set_option linter.unusedSimpArgs false
set_option linter.unusedSimpArgs false
set_option linter.unusedVariables false
namespace Go.Proofs.YtmagppkclnebjaaGreatDoor
open Go.RowKit
open L

set_option maxHeartbeats 8000000 in
set_option maxRecDepth 100000 in
theorem stdLaw_any (t : Tms) (ht : t.ok) (l : List Chg) (A : Option Addr) (n c : Nat) (hn : l.length = n) (b : Nat) (hb : b < 256)
 (hsz : ∀ s ∈ t.l0.b ++ t.l1.b, s.size ≤ 9223372036854775807) (hszl : ∀ d ∈ l, d.name.size ≤ 9223372036854775807) (w : World) (hl : RdC w A l) (hE : Env w) (G : Array Value) (hG : G = (t.cells ++ [Value.slice A n c]).toArray) :
 Calls Tryz.prog 10 #[.agg G, .int .u8 b] w fun x w' => x = .returned (.bool true) ∧ Below w.heap.size w w' := by
 have haw : ∀ W, Below w.heap.size w W → Calls Tryz.prog 13 #[] W fun x w' => x = .returned (.bool true) ∧ Below W.heap.size W w' := fun W h => awake_any W (env_below hE h)
 obtain ⟨P, Gp, hP⟩ := gp_of1 t ht A n c G hG w
 by_cases hv : validL t l = true
 ·
  exact std_main P w t.cells A n c l (1 + b % 16) b _ _ _ _ _ _ _ _ _ _ _ Gp (std_facts P w t ht l A n c 1 hn (1 + b % 16) (by omega) hsz hszl hl haw Gp hv) (Lib.hid ⟨hb, rfl⟩) G hP
 ·
  have H34 : ∀ W, P W → Calls Tryz.prog 34 #[.agg (t.cells ++ [Value.slice A n c]).toArray] W fun x w' => x = .returned (.bool false) ∧ Below W.heap.size W w' := fun W h => by
   have := valid_any t ht _ l A n c rfl hn hsz hszl W (hl.below (Gp.below _ h))
   rw [show validL t l = false by simpa using hv] at this; exact this
  have Haw : ∀ W, P W → Calls Tryz.prog 13 #[] W fun x w' => x = .returned (.bool true) ∧ Below W.heap.size W w' := fun W h => haw W (Gp.below _ h)
  have hgr := Gp.rg
  have hi49 := Gp.i49
  have Hgr := Lib.hid hgr; have Hi49 := Lib.hid hi49; have H34' := Lib.hid H34; have Haw' := Lib.hid Haw
  clear hv hG ht hn hsz hszl hl haw H34 Haw hgr hi49 hE hb
  generalize (t.cells ++ [Value.slice A n c]) = gc at Hgr Hi49 H34'
  go_enter Tryz.func10, Tryz.ntmps10
  go_upto_region 1 with fail
  generalize (w.alloc (.cells G 49)) = W0 at hP ⊢
  go_cut [5] from 40 to 43 (fun _ wr => P wr)
  case first =>
   go_wp2
   go_meet
   exact hP
  case rest =>
   clear hP
   generalize wc = W1 at hcut ⊢
   go_wp2_with (first
    | (go_at_call 13; refine (Haw'.out _ hcut).mono ?_; rintro e w1 ⟨rfl, hb1⟩; have hP1 := Gp.kp _ _ hcut hb1)
    | (refine wpList_load_cells_g 49 _ rfl w.heap.size 0 rfl gc (fun j hj => by rw [List.getElem?_eq_getElem hj]; exact Hgr.out _ hP1 j _ (List.getElem?_eq_getElem hj)) _ Tryz.underlying49 rfl Hi49.out rfl ?_)
    | (go_at_call 34; refine (H34'.out _ hP1).mono ?_; rintro e w2 ⟨rfl, hb2⟩; have hP2 := Gp.kp _ _ hP1 hb2))
   refine (Haw'.out _ hP2).mono ?_
   rintro e w3 ⟨rfl, hb3⟩
   go_wp2
   go_ret
   exact ⟨rfl, Gp.below _ (Gp.kp _ _ hP2 hb3)⟩
end Go.Proofs.YtmagppkclnebjaaGreatDoor
