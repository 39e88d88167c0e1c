/- dugoutlaw03.LineupWho: it returns true at every game and triple. -/
import Derived.Test.YtmagppkclnebjaaGreatDoorH2
import Derived.Test.YtmagppkclnebjaaGreatDoorB9
set_option linter.unusedVariables false
set_option linter.unusedSimpArgs false
namespace Go.Proofs.YtmagppkclnebjaaGreatDoor
open Go.RowKit
open L
theorem whoLaw_any (t : Tms) (ht : t.ok) (l : List Chg) (A : Option Addr) (n c : Nat) (hn : l.length = n) (x0 x1 x2 : Int)
 (hsz : ∀ s ∈ t.l0.b ++ t.l1.b, s.size ≤ 9223372036854775807) (hszl : ∀ d ∈ l, d.name.size ≤ 9223372036854775807) (w : World) (hl : RdC w A l) (hE : Env w) :
 Calls Tryz.prog 7 #[.agg (t.cells ++ [Value.slice A n c]).toArray, .agg #[.int .i64 x0, .int .i64 x1, .int .i64 x2]] w fun x w' => x = .returned (.bool true) ∧ Below w.heap.size w w' :=
 who_walk t ht l A n c hn x0 x1 x2 _ rfl hsz hszl w hl fun W h => awake_any W (env_below hE h)
end Go.Proofs.YtmagppkclnebjaaGreatDoor
