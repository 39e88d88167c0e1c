/- slices.SortFunc of a nil slice of stints: nothing turns. -/
import Derived.Test.YtmagppkclnebjaaGreatDoorQa
import Derived.Test.YtmagppkclnebjaaGreatDoorQs
set_option linter.unusedVariables false
set_option linter.unusedSimpArgs false
set_option linter.unusedSimpArgs false
namespace Go.Proofs.YtmagppkclnebjaaGreatDoor
open Go.RowKit
open L

set_option maxHeartbeats 2000000 in
theorem insNone (c : Nat) (fv : Value) (w : World) : Calls Tryz.prog 152 #[.slice none 0 c, .int .i64 0, .int .i64 0, fv] w fun x w' => x = .returned (.tuple #[]) ∧ w' = w := by
 go_enter Tryz.func152, Tryz.ntmps152
 go_upto_region 1 with fail
 go_loop [8] (fun i => i = .int .i64 1) (fun _ => 0)
 case atStart => rfl
 case round =>
  obtain rfl := hrel
  go_wp2
  go_end0
  exact ⟨rfl, rfl⟩
set_option maxHeartbeats 4000000 in
theorem pdqNone (c : Nat) (lim : Value) (fv : Value) (w : World) : Calls Tryz.prog 134 #[.slice none 0 c, .int .i64 0, .int .i64 0, lim, fv] w fun x w' => x = .returned (.tuple #[]) ∧ w' = w := by
 go_enter Tryz.func134, Tryz.ntmps134
 go_upto_region 2 with fail
 go_loop [1, 2] (fun i j => i = .int .i64 0 ∧ j = .int .i64 0) (fun _ _ => 0)
 case atStart => exact ⟨rfl, rfl⟩
 case round =>
  obtain ⟨rfl, rfl⟩ := hrel
  go_wp2_with (go_at_call 152; refine (insNone _ _ _).mono ?_; rintro e w' ⟨rfl, rfl⟩)
  first | go_end0 | (refine bodyPost_ret (results_none rfl _ _ _) rfl ?_)
  exact ⟨rfl, rfl⟩
theorem hlen0 (W : World) : Calls Tryz.prog 135 #[.int .u64 0] W fun e w' => (∃ l : Int, e = .returned (.int .i64 l)) ∧ w' = W :=
 (Tryz.bits_Len 0 W (by omega) (by omega)).mono fun _ _ ⟨he, hw⟩ => ⟨⟨_, he⟩, hw⟩
set_option maxHeartbeats 2000000 in
theorem sortNone (c : Nat) (fv : Value) (w : World) : Calls Tryz.prog 101 #[.slice none 0 c, fv] w fun x w' => x = .returned (.tuple #[]) ∧ w' = w := by
 go_enter Tryz.func101, Tryz.ntmps101
 go_wp2_with (first
  | (go_at_call 135; refine (hlen0 _).mono ?_; rintro e w1 ⟨⟨lim, rfl⟩, rfl⟩)
  | (go_at_call 134; refine (pdqNone _ _ _ _).mono ?_; rintro e w2 ⟨rfl, rfl⟩))
 go_end0
 exact ⟨rfl, rfl⟩
end Go.Proofs.YtmagppkclnebjaaGreatDoor
