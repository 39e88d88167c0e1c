/- What '==' gives at changes, at stints and at deviations, of either package. -/
import Derived.Test.YtmagppkclnebjaaGreatDoorR3
import Derived.Test.YtmagppkclnebjaaGreatDoorA11
set_option linter.unusedVariables false
set_option linter.unusedSimpArgs false
set_option linter.unusedSimpArgs false
namespace Go.Proofs.YtmagppkclnebjaaGreatDoor
open Go.RowKit
open L

theorem part_one (w : World) (t : TypeId) (xs : Array Value) (o : Nat) (v : Value) (h : (isAgg t).run Tryz.prog w = .ok false w) (hx : xs[o]? = some v) : (part t xs o).run Tryz.prog w = .ok v w := by
  simp [part, h, hx]
def fld (n : String) (t o b : Nat) : Field := { name := n, type := t, offset := o, embedded := false, tag := "", pkgPath := "", byteOffset := b }
def fsChg : List Field := [fld "Side" 3 0 0, fld "Play" 3 1 8, fld "Slot" 3 2 16, fld "Player" 9 3 24, fld "Position" 3 4 40]
def fsSti : List Field := [fld "Side" 3 0 0, fld "Slot" 3 1 8, fld "Position" 3 2 16, fld "Player" 9 3 24, fld "From" 3 4 40, fld "To" 3 5 48]
def fsDev : List Field := [fld "Index" 3 0 0, fld "Proper" 9 1 8, fld "Came" 9 2 24, fld "Next" 9 3 40]
theorem eqI (w : World) (d : Nat) (x y : Int) : (Op.equalIn (d + 1) 3 (.int .i64 x) (.int .i64 y)).run Tryz.prog w = .ok (decide (x = y)) w := by
  rw [run_equalIn_int w d 3 .i64 .i64 _ _ Tryz.underlying3]; congr 1
theorem eqS (w : World) (d : Nat) (x y : Str) : (Op.equalIn (d + 1) 9 (.string x) (.string y)).run Tryz.prog w = .ok (decide (x = y)) w := by
  rw [run_equalIn_string w d 9 _ _ Tryz.underlying9, tl_beq]
theorem ne_Came : ("Came" : String) ≠ "_" := by simp
theorem ne_From : ("From" : String) ≠ "_" := by simp
theorem ne_Index : ("Index" : String) ≠ "_" := by simp
theorem ne_Next : ("Next" : String) ≠ "_" := by simp
theorem ne_Play : ("Play" : String) ≠ "_" := by simp
theorem ne_Player : ("Player" : String) ≠ "_" := by simp
theorem ne_Position : ("Position" : String) ≠ "_" := by simp
theorem ne_Proper : ("Proper" : String) ≠ "_" := by simp
theorem ne_Side : ("Side" : String) ≠ "_" := by simp
theorem ne_Slot : ("Slot" : String) ≠ "_" := by simp
theorem ne_To : ("To" : String) ≠ "_" := by simp
theorem eqF_step (w : World) (d : Nat) (f : Field) (fs : List Field) (xs ys : Array Value) (x y : Value) (b : Bool) (hn : f.name ≠ "_") (hx : (part f.type xs f.offset).run Tryz.prog w = .ok x w) (hy : (part f.type ys f.offset).run Tryz.prog w = .ok y w)
    (he : (Op.equalIn d f.type x y).run Tryz.prog w = .ok b w) (r : Bool) (hr : (Op.eqFields d xs ys fs).run Tryz.prog w = .ok r w) : (Op.eqFields d xs ys (f :: fs)).run Tryz.prog w = .ok (b && r) w := by
  have n1 : (f.name ≠ "_") = True := by simp [hn]
  simp only [Op.eqFields, n1, if_true, Sem.run_bind, hx, hy, he, Result.andThen_ok]
  cases b
  · simp
  · simpa using hr
theorem eqChg (t : TypeId) (ht : Tryz.prog.underlying t = some (.struct (Tryz.prog.fieldsOf t))) (hp : Tryz.prog.stoodInHeld t = false) (hf : Tryz.prog.fieldsOf t = fsChg.toArray)
    (w : World) (d : Nat) (a b : Chg) : (Op.equalIn (d + 3) t (.agg a.val) (.agg b.val)).run Tryz.prog w = .ok (decide (a = b)) w := by
  rw [run_equalIn_agg w (d + 2) t _ _ ht hp, hf]
  show (Op.eqFields (d + 2) _ _ fsChg).run _ _ = _
  unfold fsChg
  obtain ⟨a1, a2, a3, a4, a5⟩ := a
  obtain ⟨b1, b2, b3, b4, b5⟩ := b
  have hd : decide ((⟨a1, a2, a3, a4, a5⟩ : Chg) = ⟨b1, b2, b3, b4, b5⟩) = (decide (a1 = b1) && (decide (a2 = b2) && (decide (a3 = b3) && (decide (a4 = b4) && (decide (a5 = b5) && true))))) := by
    rw [Bool.eq_iff_iff]; simp
  rw [hd]
  refine eqF_step w (d + 2) (fld "Side" 3 0 0) _ _ _ _ _ _ ne_Side (part_one w 3 _ 0 _ (agg3 w) rfl) (part_one w 3 _ 0 _ (agg3 w) rfl) (eqI w (d + 1) _ _) _ ?_
  refine eqF_step w (d + 2) (fld "Play" 3 1 8) _ _ _ _ _ _ ne_Play (part_one w 3 _ 1 _ (agg3 w) rfl) (part_one w 3 _ 1 _ (agg3 w) rfl) (eqI w (d + 1) _ _) _ ?_
  refine eqF_step w (d + 2) (fld "Slot" 3 2 16) _ _ _ _ _ _ ne_Slot (part_one w 3 _ 2 _ (agg3 w) rfl) (part_one w 3 _ 2 _ (agg3 w) rfl) (eqI w (d + 1) _ _) _ ?_
  refine eqF_step w (d + 2) (fld "Player" 9 3 24) _ _ _ _ _ _ ne_Player (part_one w 9 _ 3 _ (agg9 w) rfl) (part_one w 9 _ 3 _ (agg9 w) rfl) (eqS w (d + 1) _ _) _ ?_
  refine eqF_step w (d + 2) (fld "Position" 3 4 40) _ _ _ _ _ _ ne_Position (part_one w 3 _ 4 _ (agg3 w) rfl) (part_one w 3 _ 4 _ (agg3 w) rfl) (eqI w (d + 1) _ _) _ ?_
  simp [Op.eqFields]
theorem eqSti (t : TypeId) (ht : Tryz.prog.underlying t = some (.struct (Tryz.prog.fieldsOf t))) (hp : Tryz.prog.stoodInHeld t = false) (hf : Tryz.prog.fieldsOf t = fsSti.toArray)
    (w : World) (d : Nat) (a b : Sti) : (Op.equalIn (d + 3) t (.agg a.val) (.agg b.val)).run Tryz.prog w = .ok (decide (a = b)) w := by
  rw [run_equalIn_agg w (d + 2) t _ _ ht hp, hf]
  show (Op.eqFields (d + 2) _ _ fsSti).run _ _ = _
  unfold fsSti
  obtain ⟨a1, a2, a3, a4, a5, a6⟩ := a
  obtain ⟨b1, b2, b3, b4, b5, b6⟩ := b
  have hd : decide ((⟨a1, a2, a3, a4, a5, a6⟩ : Sti) = ⟨b1, b2, b3, b4, b5, b6⟩) = (decide (a1 = b1) && (decide (a2 = b2) && (decide (a3 = b3) && (decide (a4 = b4) && (decide (a5 = b5) && (decide (a6 = b6) && true)))))) := by
    rw [Bool.eq_iff_iff]; simp
  rw [hd]
  refine eqF_step w (d + 2) (fld "Side" 3 0 0) _ _ _ _ _ _ ne_Side (part_one w 3 _ 0 _ (agg3 w) rfl) (part_one w 3 _ 0 _ (agg3 w) rfl) (eqI w (d + 1) _ _) _ ?_
  refine eqF_step w (d + 2) (fld "Slot" 3 1 8) _ _ _ _ _ _ ne_Slot (part_one w 3 _ 1 _ (agg3 w) rfl) (part_one w 3 _ 1 _ (agg3 w) rfl) (eqI w (d + 1) _ _) _ ?_
  refine eqF_step w (d + 2) (fld "Position" 3 2 16) _ _ _ _ _ _ ne_Position (part_one w 3 _ 2 _ (agg3 w) rfl) (part_one w 3 _ 2 _ (agg3 w) rfl) (eqI w (d + 1) _ _) _ ?_
  refine eqF_step w (d + 2) (fld "Player" 9 3 24) _ _ _ _ _ _ ne_Player (part_one w 9 _ 3 _ (agg9 w) rfl) (part_one w 9 _ 3 _ (agg9 w) rfl) (eqS w (d + 1) _ _) _ ?_
  refine eqF_step w (d + 2) (fld "From" 3 4 40) _ _ _ _ _ _ ne_From (part_one w 3 _ 4 _ (agg3 w) rfl) (part_one w 3 _ 4 _ (agg3 w) rfl) (eqI w (d + 1) _ _) _ ?_
  refine eqF_step w (d + 2) (fld "To" 3 5 48) _ _ _ _ _ _ ne_To (part_one w 3 _ 5 _ (agg3 w) rfl) (part_one w 3 _ 5 _ (agg3 w) rfl) (eqI w (d + 1) _ _) _ ?_
  simp [Op.eqFields]
theorem eqDev (t : TypeId) (ht : Tryz.prog.underlying t = some (.struct (Tryz.prog.fieldsOf t))) (hp : Tryz.prog.stoodInHeld t = false) (hf : Tryz.prog.fieldsOf t = fsDev.toArray)
    (w : World) (d : Nat) (a b : Dev) : (Op.equalIn (d + 3) t (.agg a.val) (.agg b.val)).run Tryz.prog w = .ok (decide (a = b)) w := by
  rw [run_equalIn_agg w (d + 2) t _ _ ht hp, hf]
  show (Op.eqFields (d + 2) _ _ fsDev).run _ _ = _
  unfold fsDev
  obtain ⟨a1, a2, a3, a4⟩ := a
  obtain ⟨b1, b2, b3, b4⟩ := b
  have hd : decide ((⟨a1, a2, a3, a4⟩ : Dev) = ⟨b1, b2, b3, b4⟩) = (decide (a1 = b1) && (decide (a2 = b2) && (decide (a3 = b3) && (decide (a4 = b4) && true)))) := by
    rw [Bool.eq_iff_iff]; simp
  rw [hd]
  refine eqF_step w (d + 2) (fld "Index" 3 0 0) _ _ _ _ _ _ ne_Index (part_one w 3 _ 0 _ (agg3 w) rfl) (part_one w 3 _ 0 _ (agg3 w) rfl) (eqI w (d + 1) _ _) _ ?_
  refine eqF_step w (d + 2) (fld "Proper" 9 1 8) _ _ _ _ _ _ ne_Proper (part_one w 9 _ 1 _ (agg9 w) rfl) (part_one w 9 _ 1 _ (agg9 w) rfl) (eqS w (d + 1) _ _) _ ?_
  refine eqF_step w (d + 2) (fld "Came" 9 2 24) _ _ _ _ _ _ ne_Came (part_one w 9 _ 2 _ (agg9 w) rfl) (part_one w 9 _ 2 _ (agg9 w) rfl) (eqS w (d + 1) _ _) _ ?_
  refine eqF_step w (d + 2) (fld "Next" 9 3 40) _ _ _ _ _ _ ne_Next (part_one w 9 _ 3 _ (agg9 w) rfl) (part_one w 9 _ 3 _ (agg9 w) rfl) (eqS w (d + 1) _ _) _ ?_
  simp [Op.eqFields]
theorem f144 : Tryz.prog.fieldsOf 144 = fsChg.toArray := by kernel_rfl
theorem f124 : Tryz.prog.fieldsOf 124 = fsSti.toArray := by kernel_rfl
theorem f29 : Tryz.prog.fieldsOf 29 = fsDev.toArray := by kernel_rfl
theorem f39 : Tryz.prog.fieldsOf 39 = fsDev.toArray := by kernel_rfl
theorem s144 : Tryz.prog.underlying 144 = some (.struct (Tryz.prog.fieldsOf 144)) := by kernel_rfl
theorem s124 : Tryz.prog.underlying 124 = some (.struct (Tryz.prog.fieldsOf 124)) := by kernel_rfl
theorem s29 : Tryz.prog.underlying 29 = some (.struct (Tryz.prog.fieldsOf 29)) := by kernel_rfl
theorem s39 : Tryz.prog.underlying 39 = some (.struct (Tryz.prog.fieldsOf 39)) := by kernel_rfl
theorem op_neq144 (w : World) (a b : Chg) : (binOp .neq 144 (.agg a.val) (.agg b.val)).run Tryz.prog w = .ok (.bool (!decide (a = b))) w := by
  rw [run_neq_struct, eqChg 144 s144 Tryz.stoodInHeld144 f144 w 9997 a b]; rfl
theorem op_neq124 (w : World) (a b : Sti) : (binOp .neq 124 (.agg a.val) (.agg b.val)).run Tryz.prog w = .ok (.bool (!decide (a = b))) w := by
  rw [run_neq_struct, eqSti 124 s124 Tryz.stoodInHeld124 f124 w 9997 a b]; rfl
theorem op_eql29 (w : World) (a b : Dev) : (binOp .eql 29 (.agg a.val) (.agg b.val)).run Tryz.prog w = .ok (.bool (decide (a = b))) w := by
  rw [run_eql_struct, eqDev 29 s29 Tryz.stoodInHeld29 f29 w 9997 a b]; rfl
theorem op_neq29 (w : World) (a b : Dev) : (binOp .neq 29 (.agg a.val) (.agg b.val)).run Tryz.prog w = .ok (.bool (!decide (a = b))) w := by
  rw [run_neq_struct, eqDev 29 s29 Tryz.stoodInHeld29 f29 w 9997 a b]; rfl
theorem op_neq39 (w : World) (a b : Dev) : (binOp .neq 39 (.agg a.val) (.agg b.val)).run Tryz.prog w = .ok (.bool (!decide (a = b))) w := by
  rw [run_neq_struct, eqDev 39 s39 Tryz.stoodInHeld39 f39 w 9997 a b]; rfl
end Go.Proofs.YtmagppkclnebjaaGreatDoor
