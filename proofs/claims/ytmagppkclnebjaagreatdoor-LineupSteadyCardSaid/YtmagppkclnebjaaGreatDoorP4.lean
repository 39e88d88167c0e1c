/- The document's example, reckoned: what each function gives at it. -/
import Derived.Test.YtmagppkclnebjaaGreatDoorB4
import Derived.Test.YtmagppkclnebjaaGreatDoorB3
import Derived.Test.YtmagppkclnebjaaGreatDoorA14
import Derived.KernelRfl
set_option linter.unusedVariables false
set_option linter.unusedSimpArgs false
namespace Go.Proofs.YtmagppkclnebjaaGreatDoor
open L
theorem ex_cc : checkChanges exT exL = 0 := by kernel_rfl
theorem ex_cc2 : checkChanges exT [⟨1, 2, 8, bs2 98 56, 2⟩] = 29 := by kernel_rfl
theorem ex_who1 : whoR exT exL 1 1 2 = (bs2 98 49, 0) := by kernel_rfl
theorem ex_who2 : whoR exT exL 2 1 2 = (bs2 98 56, 0) := by kernel_rfl
theorem ex_names : (namesR exT exL 1).length = 11 := by kernel_rfl
theorem ex_gone : goneR exT exL 4 1 = ([bs2 98 49, bs2 98 57], 0) := by kernel_rfl
theorem ex_played : playedR exT exL 6 (bs2 98 49) = (2, 0) := by kernel_rfl
theorem ex_pit : pitchersOf (allL exT exL 6) 1 = [⟨1, 9, 1, bs2 98 57, 0, 4⟩, ⟨1, 9, 1, bs2 99 57, 4, 6⟩] := by kernel_rfl
theorem ex_pitE : pitE exT exL 6 1 = 0 := by kernel_rfl
def exCame : List Str := [bs2 97 56, bs2 97 57, bs2 97 50, bs2 97 49]
theorem ex_dev : deviateR exT.l0 8 exCame = (⟨2, bs2 97 49, bs2 97 50, bs2 97 50⟩, 0) := by kernel_rfl
theorem ex_imp : improperR exT.l0 8 exCame = ([2, 3], 0) := by kernel_rfl
theorem ex_print : (printL exT exL).take 9 = [48, 32, 49, 32, 97, 49, 32, 50, 10] := by kernel_rfl
theorem ex_parse : parseR (printR exT exL) = ⟨exT, exL, 0, 0⟩ := by kernel_rfl
end Go.Proofs.YtmagppkclnebjaaGreatDoor
