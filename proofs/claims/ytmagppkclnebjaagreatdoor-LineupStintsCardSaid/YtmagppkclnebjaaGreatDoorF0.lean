/- The frame that the rows of this seat share: what the listed variables give, a world that meets the condition, the arguments laid open. -/
import Derived.Test.YtmagppkclnebjaaGreatDoorTie
import Derived.Test.YtmagppkclnebjaaGreatDoorCards
import Derived.Test.YtmagppkclnebjaaGreatDoorB5
import Derived.Test.YtmagppkclnebjaaGreatDoorK3
import Derived.Deep.Strs
import Derived.ProofKit
import Derived.OpenShut
import Derived.LaidMore
import Derived.Lay
import Derived.Lib.LaidU8
import Derived.SevenTiedAt
import Derived.Stop.Joined
set_option linter.unusedVariables false
set_option linter.unusedSimpArgs false
namespace Go.Proofs.YtmagppkclnebjaaGreatDoor
open Go.ChangeShapes Go.WideShapes Go.ChangeAt Go.RowKit
open L

theorem ownKnobN : ownKnob Tryz.prog.godebug = none := by kernel_rfl
/-- what the rows list -/
def laidL : List (String × DataW Unit) := Rows.lineupOrdersRow.laid
theorem laid_plain {W : World} (h : laidMetH Tryz.prog laidL W) : laidMet Tryz.prog laidL W := by
  rw [MakeChecks.laidMetH_plain _ _ _ (by kernel_rfl)] at h; exact h
/-- a variable of one cell, of an integer type, holds an integer -/
theorem int_of_shape {P : Program} {w : World} {g : Nat} {t : TypeId} {k : IntKind} {zero : Array Value} (h : w.ShapedOpen P) (hg : g < P.globals.size)
    (h0 : ((begin P (fun _ _ => 0) default).world.heap[g]?).bind Obj.row? = some (zero, t)) (hz : zero.size = 1)
    (hb : P.buildable t = true) (hc : P.cellTypes P.depth t = some [t]) (hu : P.underlying t = some (.int k)) : ∃ n, w.cell? ⟨g, 0, none⟩ = some (.int k n) := by
  obtain ⟨cs, hh, hs, hr⟩ := h.1 g zero t hg h0
  obtain ⟨ts, hts, _, hall⟩ := hr hb
  rw [hc] at hts
  cases hts
  have h1 : 0 < cs.size := by omega
  obtain ⟨u, hu', hok⟩ := hall 0 cs[0] (by simp [h1])
  have e : u = t := by simpa using hu'.symm
  subst e
  have hcell : w.cell? ⟨g, 0, none⟩ = some cs[0] := by simp [World.cell?, hh, h1]
  rw [hcell]
  unfold Cell.ok at hok
  rw [hu] at hok
  cases hv : cs[0] <;> rw [hv] at hok <;> simp at hok
  exact ⟨_, by rw [hok.1]⟩
theorem iface_cell {W : World} {n nm : String} {d : DataW Unit} {g : Nat} {ms : Array (String × TypeId)} {t : TypeId} (h : Lib.VarReads Tryz.prog W n (.iface nm d)) (hg : Tryz.prog.globalNamed n = some g)
    (ht : (Tryz.prog.globals[g]?).map (·.type) = some t) (hu : Tryz.prog.underlying t = some (.interface ms)) : ∃ u p, W.cell? ⟨g, 0, none⟩ = some (.iface u p) := by
  obtain ⟨g', t', cs, fuel, p, h1, h2, h3, h4⟩ := h
  obtain rfl := Option.some.inj (hg.symm.trans h1)
  obtain rfl := Option.some.inj (ht.symm.trans h2)
  obtain ⟨_, u, v, e, _⟩ := iface_of_trod hu h4
  refine ⟨u, v, ?_⟩
  have := World.var?_cell hg h3 0
  rw [this]
  obtain ⟨l⟩ := cs
  simp only at e
  subst e
  rfl
set_option maxRecDepth 100000 in
theorem tab_is {W : World} (h : Lib.VarReads Tryz.prog W "internal/strconv.uint64pow10" Rows.laid_internal_strconv_uint64pow10) : Lib.TabIs Tryz.prog W "internal/strconv.uint64pow10" .u64 Lib.pow10Tab := by
  obtain ⟨g', t', cs, fuel, p, h1, h2, h3, h4⟩ := h
  obtain rfl := Option.some.inj ((show Tryz.prog.globalNamed "internal/strconv.uint64pow10" = some 0 by kernel_rfl).symm.trans h1)
  obtain rfl := Option.some.inj ((show (Tryz.prog.globals[0]?).map (·.type) = some 254 by kernel_rfl).symm.trans h2)
  have e : (Rows.laid_internal_strconv_uint64pow10 : DataW Unit) = Lib.tabData .u64 Lib.pow10Tab := by kernel_rfl
  rw [e] at h4
  unfold Lib.TabIs
  rw [h3, ← Lib.cells_of_tab Tryz.underlying254 Tryz.underlying224 (by kernel_rfl) (by kernel_rfl) h4]
/-- WHAT THE CONDITION GIVES THE WALKS -/
theorem env_of {W : World} (hL : laidMetH Tryz.prog laidL W) (hs : W.ShapedOpen Tryz.prog) : Env W := by
  have h := laid_plain hL
  refine ⟨?_, ?_, ?_, ?_, ?_⟩
  · exact int_of_shape (g := 1) (t := 3) (zero := #[.int .i64 0]) hs (by decide +kernel) (by kernel_rfl) rfl (by kernel_rfl) (by kernel_rfl) Tryz.underlying3
  · exact iface_cell (Lib.laidMet.reads h (n := "strconv.ErrSyntax") (d := Rows.laid_strconv_ErrSyntax) (by simp [laidL, Rows.lineupOrdersRow])) (by kernel_rfl) (by kernel_rfl) Tryz.underlying138
  · exact iface_cell (Lib.laidMet.reads h (n := "strconv.ErrRange") (d := Rows.laid_strconv_ErrRange) (by simp [laidL, Rows.lineupOrdersRow])) (by kernel_rfl) (by kernel_rfl) Tryz.underlying138
  · exact tab_is (Lib.laidMet.reads h (by simp [laidL, Rows.lineupOrdersRow]))
  · obtain ⟨u, p, hc⟩ := iface_cell (Lib.laidMet.reads h (n := "strconv.ErrRange") (d := Rows.laid_strconv_ErrRange) (by simp [laidL, Rows.lineupOrdersRow])) (by kernel_rfl) (by kernel_rfl) Tryz.underlying138
    exact World.block_lt_of_cell? W ⟨5, 0, none⟩ hc
end Go.Proofs.YtmagppkclnebjaaGreatDoor
