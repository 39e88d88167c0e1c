/- What stays as it is while only new blocks come. -/
import Derived.Test.YtmagppkclnebjaaGreatDoorA15
set_option linter.unusedVariables false
set_option linter.unusedSimpArgs false
namespace Go.Proofs.YtmagppkclnebjaaGreatDoor
open Go.RowKit
open L

/-- what stays as it is while only new blocks come -/
def Keep (P : World → Prop) : Prop := ∀ X Y, P X → Below X.heap.size X Y → P Y
theorem keep_and {P Q : World → Prop} (hp : Keep P) (hq : Keep Q) : Keep (fun W => P W ∧ Q W) := fun X Y h hb => ⟨hp X Y h.1 hb, hq X Y h.2 hb⟩
theorem keep_below (w : World) : Keep (fun W => Below w.heap.size w W) := fun _ _ h hb => bt_trans h hb
theorem keep_bk (g : Nat) (t : TypeId) (cs : Array Value) : Keep (fun W => Bk W g t cs) := fun _ _ h hb => h.below hb h.lt
theorem keep_slk (k : Nat) (v : Value) (n : Nat) (xs : List Value) : Keep (fun W => SlK k W v n xs) := fun _ _ h hb => h.below hb
theorem keep_rds (A : Option Addr) (S : List Sti) : Keep (fun W => RdS W A S) := fun _ _ h hb => h.below hb
theorem keep_rdc (A : Option Addr) (S : List Chg) : Keep (fun W => RdC W A S) := fun _ _ h hb => h.below hb
theorem keep_rd (A : Option Addr) (S : List Value) : Keep (fun W => Rd W A S) := fun _ _ h hb => h.below hb
/-- a block behind which nothing is kept: it may be there, or not -/
theorem keep_true : Keep (fun _ => True) := fun _ _ _ _ => True.intro
end Go.Proofs.YtmagppkclnebjaaGreatDoor
