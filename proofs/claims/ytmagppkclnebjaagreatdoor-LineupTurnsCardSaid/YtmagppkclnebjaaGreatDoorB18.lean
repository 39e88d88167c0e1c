/- dugoutlaw03.LineupTurns: it returns true at every lineup, slot and list. -/
import Derived.Test.YtmagppkclnebjaaGreatDoorB17
import Derived.Test.YtmagppkclnebjaaGreatDoorB9
set_option linter.unusedVariables false
set_option linter.unusedSimpArgs false
namespace Go.Proofs.YtmagppkclnebjaaGreatDoor
open Go.RowKit
open L
theorem turns_any (o : LU) (ho : o.ok) (hsz : ∀ s ∈ o.b, s.size ≤ 9223372036854775807) (A : Array Value) (hA : A = o.cells.toArray) (sl : Nat) (hsl : sl ≤ 255) (cm : List Int) (hcm : ∀ c ∈ cm, 0 ≤ c ∧ c ≤ 255) (C : Option Addr) (n c : Nat) (hn : cm.length = n) (hle : n ≤ 9223372036854775807) (w : World) (hc : Rd w C (cm.map (.int .u8))) (hE : Env w) :
    Calls Tryz.prog 5 #[.agg A, .int .u8 sl, .slice C n c] w fun x w' => x = .returned (.bool true) ∧ Below w.heap.size w w' :=
  turns_walk o ho hsz A hA sl hsl cm hcm C n c hn hle w hc fun W h => awake_any W (env_below hE h)
end Go.Proofs.YtmagppkclnebjaaGreatDoor
