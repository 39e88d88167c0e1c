/- Texts of this seat, joined: Small lemmas on memory, strings and endings that the walks of this seat share · Short words for the steps of a region that draws its order: an operation is found by its place alone · The leaves: when, first, within and their kin; slices.Index and slices.Contains; cmp.Compare and cmp.Or · play.IsName and lineup.named; cmp.Or · lineup.CheckLineup · lineup.CheckTeams · Teams: player, make; a change: check, compare · Teams: make · A change by itself: check; two changes: compare; cmp.Or · What '==' gives at arrays of strings and of integers, at lineups and at teams · A set of names, kept as a map from strings to true that the call makes: lookups and stores · Lemmas on memory that the walk of lineup.CheckChanges and its kin share · More lemmas on memory: a block that is filled whole, results in a block, the blocks of lineups and teams. -/
import Derived.Test.YtmagppkclnebjaaGreatDoorProg
import Derived.Test.YtmagppkclnebjaaGreatDoorQ0
import Derived.WalkKit
import Derived.WalkSpells
import Derived.WalkLawsBesides
import Derived.Lib.Hide
import Derived.Deep.QuietTactic
import Derived.BigQuiet
import Derived.Deep.RegionHeld3
import Derived.Lib.OthersKept
import Derived.ChangeKeysEq
import Derived.Maps.Own
import Derived.Maps.OwnOps
import Derived.Maps.OwnSet
import Derived.Maps.Views
import Derived.Maps.Keyed
import Derived.StringKeys
import Derived.Deep.DeepCutAuto
set_option linter.unusedVariables false
set_option linter.unusedSimpArgs false
namespace Go.Proofs.YtmagppkclnebjaaGreatDoor
open Go.RowKit
open L

theorem ret_int {k : IntKind} {a b : Int} (h : a = b) : Ending.returned (.int k a) = .returned (.int k b) := by rw [h]
theorem ret_bool {a b : Bool} (h : a = b) : Ending.returned (.bool a) = .returned (.bool b) := by rw [h]
theorem ret_str {a b : Str} (h : a = b) : Ending.returned (.string a) = .returned (.string b) := by rw [h]

theorem tl_beq (a b : Str) : (a.toList == b.toList) = decide (a = b) := by
 rw [Bool.eq_iff_iff]
 simp only [ByteArray.toList_eq, beq_iff_eq, decide_eq_true_eq]
 constructor
 ·
  intro h; cases a; cases b; simp only [Array.toList_inj] at h; rw [h]
 ·
  rintro rfl; rfl
theorem tl_eq {a b : Str} (h : a = b) : (a.toList == b.toList) = true := by rw [tl_beq]; simpa using h
theorem tl_ne {a b : Str} (h : a ≠ b) : (a.toList == b.toList) = false := by rw [tl_beq]; simpa using h

/-- slice address A holds the values xs, a cell each, from there on -/
def Rd (w : World) (A : Option Addr) (xs : List Value) : Prop :=
 xs = [] ∨ ∃ b off, A = some ⟨b, off, none⟩ ∧ ∀ k, k < xs.length → w.cell? ⟨b, off + k, none⟩ = xs[k]?
theorem Rd.at_ {w : World} {A : Option Addr} {xs : List Value} (h : Rd w A xs) {k : Nat} (hk : k < xs.length) :
 ∃ b off, A = some ⟨b, off, none⟩ ∧ w.cell? ⟨b, off + k, none⟩ = xs[k]? := by
 rcases h with rfl | ⟨b, off, rfl, hc⟩
 ·
  simp at hk
 ·
  exact ⟨b, off, rfl, hc k hk⟩
theorem Rd.str {w : World} {A : Option Addr} {l : List Str} (h : Rd w A (l.map .string)) {k : Nat} (hk : k < l.length) :
 ∃ b off, A = some ⟨b, off, none⟩ ∧ w.cell? ⟨b, off + k, none⟩ = some (.string (l.getD k .empty)) := by
 obtain ⟨b, off, e, hc⟩ := h.at_ (k := k) (by simpa using hk)
 exact ⟨b, off, e, by rw [hc]; simp [List.getD, List.getElem?_eq_getElem hk]⟩
theorem Rd.int {w : World} {A : Option Addr} {l : List Int} (h : Rd w A (l.map (.int .i64))) {k : Nat} (hk : k < l.length) :
 ∃ b off, A = some ⟨b, off, none⟩ ∧ w.cell? ⟨b, off + k, none⟩ = some (.int .i64 (l.getD k 0)) := by
 obtain ⟨b, off, e, hc⟩ := h.at_ (k := k) (by simpa using hk)
 exact ⟨b, off, e, by rw [hc]; simp [List.getD, List.getElem?_eq_getElem hk]⟩

/-- findIdx? when nobody ahead of k fits and k does; when nobody fits -/
theorem idxF_hit {α : Type} (p : α → Bool) (l : List α) (d : α) (k : Nat) (hk : k < l.length) (h : ∀ j, j < k → p (l.getD j d) = false) (hp : p (l.getD k d) = true) : idxF p l = k := by
 have : l.findIdx? p = some k := by
  rw [List.findIdx?_eq_some_iff_getElem]
  refine ⟨hk, by simpa [List.getD, List.getElem?_eq_getElem hk] using hp, fun j hj => ?_⟩
  have := h j hj
  simp [List.getD, List.getElem?_eq_getElem (show j < l.length by omega)] at this
  simp [this]
 simp [idxF, this]
theorem idxF_miss {α : Type} (p : α → Bool) (l : List α) (d : α) (h : ∀ j, j < l.length → p (l.getD j d) = false) : idxF p l = -1 := by
 have : l.findIdx? p = none := by
  rw [List.findIdx?_eq_none_iff]
  intro x hx
  obtain ⟨j, hj, rfl⟩ := List.getElem_of_mem hx
  simpa [List.getD, List.getElem?_eq_getElem hj] using h j hj
 simp [idxF, this]
theorem idxF_nonneg {α : Type} (p : α → Bool) (l : List α) : decide (0 ≤ idxF p l) = l.any p := by
 unfold idxF
 rw [Bool.eq_iff_iff]
 cases h : l.findIdx? p with
 | none => simp [List.findIdx?_eq_none_iff] at h; simpa using h
 | some i =>
  simp only [decide_eq_true_eq, List.any_eq_true]
  refine ⟨fun _ => ?_, fun _ => by simp⟩
  rw [List.findIdx?_eq_some_iff_getElem] at h
  obtain ⟨hk, hp, _⟩ := h
  exact ⟨l[i], List.getElem_mem hk, hp⟩
theorem idxF_bd {α : Type} (p : α → Bool) (l : List α) : -1 ≤ idxF p l ∧ idxF p l < l.length := by
 unfold idxF
 cases h : l.findIdx? p with
 | none => simp only []; omega
 | some i =>
  rw [List.findIdx?_eq_some_iff_getElem] at h
  obtain ⟨hk, _⟩ := h
  simp only []; omega
theorem any_mem {α : Type} [BEq α] [LawfulBEq α] [DecidableEq α] (l : List α) (s : α) : l.any (fun x => decide (x = s)) = decide (s ∈ l) := by
 rw [Bool.eq_iff_iff]; simp

/-- block g is just these cells, none frozen -/
def Bk (w : World) (g : Nat) (t : TypeId) (cs : Array Value) : Prop := w.heap[g]? = some (.cells cs t (0, 0))
section
variable {w w' : World} {g : Nat} {t : TypeId} {cs : Array Value}
theorem Bk.lt (h : Bk w g t cs) : g < w.heap.size := by
 rcases Nat.lt_or_ge g w.heap.size with hlt | hge
 ·
  exact hlt
 ·
  unfold Bk at h; rw [Array.getElem?_eq_none hge] at h; cases h
theorem Bk.cell (h : Bk w g t cs) (i : Nat) : w.cell? ⟨g, i, none⟩ = cs[i]? := cell_of_row w g i cs t (0, 0) h
theorem Bk.frozen (h : Bk w g t cs) (i : Nat) : w.frozen? ⟨g, i, none⟩ = false := by
 unfold Bk at h
 simp [World.frozen?, h]
theorem Bk.new (w : World) (t : TypeId) (cs : Array Value) : Bk (w.alloc (.cells cs t)) w.heap.size t cs := heap_alloc_new w _
theorem Bk.drew (h : Bk w g t cs) : Bk w.drew g t cs := h
theorem Bk.drewN (h : Bk w g t cs) (n : Nat) : Bk (w.drewN n) g t cs := h
theorem Bk.alloc (h : Bk w g t cs) (o : Obj) : Bk (w.alloc o) g t cs := (Below.heap_alloc w o g h.lt).trans h
theorem Bk.below {B : Nat} (h : Bk w g t cs) (hb : Below B w w') (hg : g < B) : Bk w' g t cs := (hb.block g hg).trans h
theorem Bk.set_ (h : Bk w g t cs) (i : Nat) (u : Value) : Bk (w.setCell ⟨g, i, none⟩ u) g t (cs.setIfInBounds i u) := by
 unfold Bk at h ⊢
 simp [World.setCell, Array.getElem?_modify, h]
theorem Bk.far (h : Bk w g t cs) {p : Addr} (hp : g ≠ p.block) (u : Value) : Bk (w.setCell p u) g t cs := (Below.heap_setCell w p u g hp).trans h
end

section
variable {P : Program}
/-- a load of an array or a struct out of the middle of a block -/
theorem run_loadVar_cells (w : World) (g off : Nat) (ty : TypeId) (xs : List Value) (d : TypeDesc) (h : ∀ j, j < xs.length → w.cell? ⟨g, off + j, none⟩ = xs[j]?)
 (hu : P.underlying ty = some d) (hd : (match d with | .struct _ | .array _ _ => true | _ => false) = true) (hi : (P.info? ty).map (·.size) = some xs.length) :
 (loadVar ty ⟨g, off, none⟩).run P w = .ok (.agg xs.toArray) w := by
 have hl := run_loadCells_list (P := P) w ⟨g, off, none⟩ xs (fun j v hv => by
  have hadd : (⟨g, off, none⟩ : Addr).add j = ⟨g, off + j, none⟩ := by unfold Addr.add; split <;> simp_all
  have hj : j < xs.length := (List.getElem?_eq_some_iff.1 hv).1
  rw [hadd, h j hj, hv])
 cases hq : P.info? ty with
 | none => simp [hq] at hi
 | some i =>
  have hs : i.size = xs.length := by simpa [hq] using hi
  have hagg : (isAgg ty).run P w = .ok true w := by
   unfold isAgg
   rw [Sem.run_bind, run_underlying hu w]
   cases d <;> simp_all
  simp [loadVar, Sem.run_bind, hagg, sizeOf, typeInfo, hq, hs, hl]
theorem run_loadAt_cells (w : World) (g off : Nat) (ty : TypeId) (xs : List Value) (d : TypeDesc) (h : ∀ j, j < xs.length → w.cell? ⟨g, off + j, none⟩ = xs[j]?)
 (hu : P.underlying ty = some d) (hd : (match d with | .struct _ | .array _ _ => true | _ => false) = true) (hi : (P.info? ty).map (·.size) = some xs.length) :
 (Instr.loadAt ty (.pointer (some ⟨g, off, none⟩))).run P w = .ok (.agg xs.toArray) w := by
 simp only [Instr.loadAt, Instr.sureAddr, Sem.run_bind, Sem.run_pure, Result.andThen_ok, run_loadVar_cells w g off ty xs d h hu hd hi]
theorem wp_load_cells {o : Oper} {a : Act} {w : World} {K : Act → World → Prop} {Q : Exit → Act → World → Prop} (ty : TypeId) (x : Operand) (ho : o.op = .load ty x)
 (g off : Nat) (hx : a.eval x = .pointer (some ⟨g, off, none⟩)) (xs : List Value) (h : ∀ j, j < xs.length → w.cell? ⟨g, off + j, none⟩ = xs[j]?) (d : TypeDesc)
 (hu : P.underlying ty = some d) (hd : (match d with | .struct _ | .array _ _ => true | _ => false) = true) (hi : (P.info? ty).map (·.size) = some xs.length)
 (hK : K (a.put o.dst (.agg xs.toArray)) w) : o.wp P a w K Q := by
 unfold Oper.wp execOp
 simp only [ho, hx, Instr.loadAt, Instr.sureAddr, Sem.run_bind, Sem.run_pure, Result.andThen_ok, run_loadVar_cells w g off ty xs d h hu hd hi]
 exact hK
theorem wpList_load_cells {ops : Array Oper} {rest : List Oper} {o : Oper} {a : Act} {w : World} {Q : Exit → Act → World → Prop} (hgd : o.guard = none) (ty : TypeId) (x : Operand) (ho : o.op = .load ty x)
 (g off : Nat) (hx : a.eval x = .pointer (some ⟨g, off, none⟩)) (xs : List Value) (h : ∀ j, j < xs.length → w.cell? ⟨g, off + j, none⟩ = xs[j]?) (d : TypeDesc)
 (hu : P.underlying ty = some d) (hd : (match d with | .struct _ | .array _ _ => true | _ => false) = true) (hi : (P.info? ty).map (·.size) = some xs.length)
 (hK : wpList P ops Q rest (a.put o.dst (.agg xs.toArray)) w) : wpList P ops Q (o :: rest) a w :=
 wpList_plain hgd fun _ hK' => wp_load_cells ty x ho g off hx xs h d hu hd hi (hK' _ _ hK)
theorem run_index_agg (w : World) (t e : TypeId) (len : Nat) (xs : List Value) (k : Nat) (v : Value) (hu : P.underlying t = some (.array len e)) (hk : k < len) (he : ∀ w : World, (isAgg e).run P w = .ok false w)
 (hs : ∀ w : World, (sizeOf e).run P w = .ok 1 w) (hv : xs[k]? = some v) : (Instr.index t (.agg xs.toArray) (.int .i64 k)).run P w = .ok v w := by
 simp [Instr.index, asIntOf, run_underlying hu, part, he, hs, hk, hv]
theorem run_slice_arr_to (w : World) (t e : TypeId) (n : Nat) (a : Addr) (k : Nat) (hu : P.underlying t = some (.array n e)) (hk : k ≤ n) (hs : ∀ w : World, (sizeOf e).run P w = .ok 1 w) :
 (Instr.sliceAt t (.pointer (some a)) none (some (.int .i64 k)) none).run P w = .ok (.slice (some a) k n) w := by
 simp [Instr.sliceAt, Instr.sureAddr, run_underlying hu, Instr.sliceBounds, Instr.sliceBound, asIntOf, hs, hk, Addr.add]
theorem run_slice_arr_all (w : World) (t e : TypeId) (n : Nat) (a : Addr) (hu : P.underlying t = some (.array n e)) (hs : ∀ w : World, (sizeOf e).run P w = .ok 1 w) :
 (Instr.sliceAt t (.pointer (some a)) none none none).run P w = .ok (.slice (some a) n n) w := by
 simp [Instr.sliceAt, Instr.sureAddr, run_underlying hu, Instr.sliceBounds, hs, Addr.add]
end
theorem Rd.of_block {w : World} {b : Nat} {cs : Array Value} {t : TypeId} {fr : Nat × Nat} (h : w.heap[b]? = some (.cells cs t fr)) : Rd w (some ⟨b, 0, none⟩) cs.toList :=
 .inr ⟨b, 0, rfl, fun k _ => by rw [cell_of_row w b _ cs t fr h]; simp⟩
theorem Rd.keep {w w' : World} {A : Option Addr} {xs : List Value} (h : Rd w A xs) (hk : ∀ b off, A = some ⟨b, off, none⟩ → ∀ o, w'.cell? ⟨b, o, none⟩ = w.cell? ⟨b, o, none⟩) : Rd w' A xs := by
 rcases h with rfl | ⟨b, off, rfl, hc⟩
 ·
  exact .inl rfl
 ·
  exact .inr ⟨b, off, rfl, fun k hkl => by rw [hk b off rfl]; exact hc k hkl⟩

def L.LU.cells (l : LU) : List Value := l.b.map .string ++ l.p.map (.int .i64)
def L.Tms.cells (t : Tms) : List Value := t.l0.cells ++ t.l1.cells
end Go.Proofs.YtmagppkclnebjaaGreatDoor

set_option linter.unusedSimpArgs false
set_option linter.unusedVariables false
universe u
namespace Go.Proofs.YtmagppkclnebjaaGreatDoor
open Go.RowKit

theorem s1D {α : Type u} {xs : List α} {i : Nat} {a : α} : xs.toArray.setIfInBounds i a = (xs.set i a).toArray := List.setIfInBounds_toArray xs i a
theorem s2D {α : Type u} {a b : α} {r : List α} : (a :: r).set 0 b = b :: r := rfl
theorem s3D {α : Type u} {a b : α} {r : List α} {i : Nat} : (a :: r).set (i + 1) b = a :: r.set i b := rfl
/-- the operation at a place -/
def nthOp : List Oper → Nat → Option Oper
 | [], _ => none
 | o :: _, 0 => some o
 | _ :: r, i + 1 => nthOp r i
theorem nthOp_eq : ∀ (l : List Oper) (i : Nat), nthOp l i = l[i]?
 | [], _ => rfl
 | _ :: _, 0 => rfl
 | _ :: r, i + 1 => nthOp_eq r i
theorem nthOp_arr {ops : Array Oper} {i : Nat} {o : Oper} (h : nthOp ops.toList i = some o) : ops[i]? = some o := by
 rw [nthOp_eq] at h; rw [← Array.getElem?_toList]; exact h
section
variable {P : Program} {md : Region.Mode} {ops : Array Oper} {Q : Exit → Act → World → Prop} {S : World → Prop} {i : Nat} {oi : Oper} {fuel : Nat} {listed : Array Bool} {a a' : Act} {w : World}
/-- take operation i first -/
theorem tkE {v : Value} (hi : nthOp ops.toList i = some oi)
 (h : wpAnyH P md ops Q S fuel (listed.setIfInBounds i true) a' w)
 (hy : ∀ w, S w → (execOp a.eval oi).run P w = .ok (.value v) w := by (intro W hSW; (try dsimp only at hSW); go_simp; with_reducible rfl))
 (hp : a.put oi.dst v = a' := by (try simp only [Act.put, s1D, s2D, s3D]); exact rfl) (hS : S w := by assumption)
 (hs : Region.noSelect ops = true := by kernel_rfl) (hf : Region.free md ops listed i = true := by kernel_rfl) (hr : (Region.ready md ops listed).contains i = true := by kernel_rfl)
 (hw : Region.wanted oi (yielded ops a.tmps) = true := by kernel_rfl) (hQ : ∀ c a w, Q (.panic c) (a.put oi.dst v) w → Q (.panic c) a w := by exact fun _ _ _ h => h) : wpAnyH P md ops Q S (fuel + 1) listed a w := by
 subst hp; exact wpAnyH_take (nthOp_arr hi) hs hf hr hQ (Or.inl ⟨hw, hy⟩) hS h
/-- the same, its value given -/
theorem tvE {v : Value} (hi : nthOp ops.toList i = some oi) (hy : ∀ w, S w → (execOp a.eval oi).run P w = .ok (.value v) w)
 (h : wpAnyH P md ops Q S fuel (listed.setIfInBounds i true) a' w)
 (hp : a.put oi.dst v = a' := by (try simp only [Act.put, s1D, s2D, s3D]); exact rfl) (hS : S w := by assumption)
 (hs : Region.noSelect ops = true := by kernel_rfl) (hf : Region.free md ops listed i = true := by kernel_rfl) (hr : (Region.ready md ops listed).contains i = true := by kernel_rfl)
 (hw : Region.wanted oi (yielded ops a.tmps) = true := by kernel_rfl) (hQ : ∀ c a w, Q (.panic c) (a.put oi.dst v) w → Q (.panic c) a w := by exact fun _ _ _ h => h) : wpAnyH P md ops Q S (fuel + 1) listed a w := by
 subst hp; exact wpAnyH_take (nthOp_arr hi) hs hf hr hQ (Or.inl ⟨hw, hy⟩) hS h
/-- its guard is false: it is passed over -/
theorem skE (hi : nthOp ops.toList i = some oi)
 (h : wpAnyH P md ops Q S fuel (listed.setIfInBounds i true) a' w)
 (hp : a.put oi.dst undef = a' := by (try simp only [Act.put, s1D, s2D, s3D]); exact rfl) (hS : S w := by assumption)
 (hs : Region.noSelect ops = true := by kernel_rfl) (hf : Region.free md ops listed i = true := by kernel_rfl) (hr : (Region.ready md ops listed).contains i = true := by kernel_rfl)
 (hw : Region.wanted oi (yielded ops a.tmps) = false := by kernel_rfl) (hQ : ∀ c a w, Q (.panic c) (a.put oi.dst undef) w → Q (.panic c) a w := by exact fun _ _ _ h => h) : wpAnyH P md ops Q S (fuel + 1) listed a w := by
 subst hp; exact wpAnyH_take (nthOp_arr hi) hs hf hr hQ (Or.inr ⟨hw, rfl⟩) hS h
/-- a load of an array or a struct -/
theorem ldE (hi : nthOp ops.toList i = some oi) {ty : TypeId} {x : Operand} (ho : oi.op = .load ty x) {b o : Nat} (hx : a.eval x = .pointer (some ⟨b, o, none⟩)) (cs : List Value) {d : TypeDesc} (hS' : ∀ w, S w → w.rangeAt b o cs)
 (hu : P.underlying ty = some d) (hd : d.isRow = true) (hsz : (P.info? ty).map (·.size) = some cs.length)
 (h : wpAnyH P md ops Q S fuel (listed.setIfInBounds i true) a' w)
 (hp : a.put oi.dst (.agg cs.toArray) = a' := by (try simp only [Act.put, s1D, s2D, s3D]); exact rfl) (hS : S w := by assumption)
 (hs : Region.noSelect ops = true := by kernel_rfl) (hf : Region.free md ops listed i = true := by kernel_rfl) (hr : (Region.ready md ops listed).contains i = true := by kernel_rfl)
 (hw : Region.wanted oi (yielded ops a.tmps) = true := by kernel_rfl) (hQ : ∀ c a w, Q (.panic c) (a.put oi.dst (.agg cs.toArray)) w → Q (.panic c) a w := by exact fun _ _ _ h => h) : wpAnyH P md ops Q S (fuel + 1) listed a w := by
 subst hp; exact wpAnyH_take (nthOp_arr hi) hs hf hr hQ (yieldsIf_load_mid hw ty x ho b o hx cs d hS' hu hd hsz) hS h
/-- operation i alone may come up -/
theorem rdE (hi : nthOp ops.toList i = some oi)
 (h : ∀ K' : Act → World → Prop, Shut (∀ a w, S w → (S w → wpAnyH P md ops Q S fuel (listed.setIfInBounds i true) a w) → K' a w) → if Region.wanted oi (yielded ops a.tmps) = true then Oper.wp P oi a w K' Q else K' (a.put oi.dst undef) w)
 (hr : Region.ready md ops listed = [i] := by kernel_rfl) : wpAnyH P md ops Q S (fuel + 1) listed a w :=
 wpAnyH_ready hr (by simp) (AllReadyH.cons (nthOp_arr hi) h AllReadyH.nil)
/-- two may come up -/
theorem rdE2 {j : Nat} {oj : Oper} (hi : nthOp ops.toList i = some oi) (hj : nthOp ops.toList j = some oj)
 (h : ∀ K' : Act → World → Prop, Shut (∀ a w, S w → (S w → wpAnyH P md ops Q S fuel (listed.setIfInBounds i true) a w) → K' a w) → if Region.wanted oi (yielded ops a.tmps) = true then Oper.wp P oi a w K' Q else K' (a.put oi.dst undef) w)
 (h2 : ∀ K' : Act → World → Prop, Shut (∀ a w, S w → (S w → wpAnyH P md ops Q S fuel (listed.setIfInBounds j true) a w) → K' a w) → if Region.wanted oj (yielded ops a.tmps) = true then Oper.wp P oj a w K' Q else K' (a.put oj.dst undef) w)
 (hr : Region.ready md ops listed = [i, j] := by kernel_rfl) : wpAnyH P md ops Q S (fuel + 1) listed a w :=
 wpAnyH_ready hr (by simp) (AllReadyH.cons (nthOp_arr hi) h (AllReadyH.cons (nthOp_arr hj) h2 AllReadyH.nil))
/-- back into the region -/
theorem onE {R : Act → World → Prop} {K : Act → World → Prop} (hK : Shut (∀ a w, S w → (S w → R a w) → K a w)) (hS : S w) (h : S w → R a' w)
 (hp : a = a' := by (try simp only [Act.put, s1D, s2D, s3D]); exact rfl) : K a w := by
 subst hp; exact hK a w hS h
end
end Go.Proofs.YtmagppkclnebjaaGreatDoor

namespace Go.Proofs.YtmagppkclnebjaaGreatDoor
open Go.RowKit
open L

theorem when_any (b : Bool) (e : Int) (w : World) :
 Calls Tryz.prog 68 #[.bool b, .int .i64 e] w fun x w' => x = .returned (.int .i64 (whenE b e)) ∧ w = w' := by
 cases b
 all_goals
  go_enter Tryz.func68, Tryz.ntmps68
  go_wp2
  go_ret
  exact ⟨rfl, rfl⟩

theorem within_any (n lo hi : Int) (w : World) :
 Calls Tryz.prog 130 #[.int .i64 n, .int .i64 lo, .int .i64 hi] w fun x w' => x = .returned (.int .i64 (withinE n lo hi)) ∧ w = w' := by
 by_cases h : n < lo
 ·
  go_enter Tryz.func130, Tryz.ntmps130
  go_wp2_with (go_at_call 68; refine (when_any _ _ _).mono ?_; rintro e w' ⟨rfl, rfl⟩)
  go_ret
  exact ⟨by simp [withinE, h], rfl⟩
 ·
  by_cases h' : hi < n
  all_goals
   go_enter Tryz.func130, Tryz.ntmps130
   go_wp2_with (go_at_call 68; refine (when_any _ _ _).mono ?_; rintro e w' ⟨rfl, rfl⟩)
   go_ret
   exact ⟨by (try have := Int.not_lt.2 h); simp_all [withinE, whenE, Int.not_lt]; try omega, rfl⟩

theorem ninth_any (n : Int) (w : World) :
 Calls Tryz.prog 95 #[.int .i64 n] w fun x w' => x = .returned (.int .i64 (withinE n 1 9)) ∧ w = w' := by
 go_enter Tryz.func95, Tryz.ntmps95
 go_wp2_with (go_at_call 130; refine (within_any _ _ _ _).mono ?_; rintro e w' ⟨rfl, rfl⟩)
 go_ret
 exact ⟨rfl, rfl⟩
theorem indexed_any (n : Int) (w : World) :
 Calls Tryz.prog 90 #[.int .i64 n] w fun x w' => x = .returned (.int .i64 (withinE n 0 256)) ∧ w = w' := by
 go_enter Tryz.func90, Tryz.ntmps90
 go_wp2_with (go_at_call 130; refine (within_any _ _ _ _).mono ?_; rintro e w' ⟨rfl, rfl⟩)
 go_ret
 exact ⟨rfl, rfl⟩
theorem sided_any (n : Int) (w : World) :
 Calls Tryz.prog 94 #[.int .i64 n] w fun x w' => x = .returned (.int .i64 (sidedE n)) ∧ w = w' := by
 by_cases h : n = 0
 ·
  subst h
  go_enter Tryz.func94, Tryz.ntmps94
  go_wp2_with (go_at_call 68; refine (when_any _ _ _).mono ?_; rintro e w' ⟨rfl, rfl⟩)
  go_ret
  exact ⟨rfl, rfl⟩
 ·
  have h1 : (n != 0) = true := by simpa using h
  go_enter Tryz.func94, Tryz.ntmps94
  go_wp2_with (go_at_call 68; refine (when_any _ _ _).mono ?_; rintro e w' ⟨rfl, rfl⟩)
  go_ret
  exact ⟨by simp [sidedE, h1], rfl⟩

set_option maxHeartbeats 400000 in
theorem firstE_any (xs : List Int) (A : Option Addr) (n c : Nat) (w : World) (hn : xs.length = n) (hle : n ≤ 100) (h : Rd w A (xs.map (.int .i64))) :
 Calls Tryz.prog 89 #[.slice A n c] w fun x w' => x = .returned (.int .i64 (firstE xs)) ∧ w = w' := by
 have Hn := Lib.hid hn; clear hn
 have Hr := Lib.hid h; clear h
 go_enter Tryz.func89, Tryz.ntmps89
 go_wp2
 go_loop [7] (fun i => ∃ k : Nat, k ≤ n ∧ i = .int .i64 k ∧ firstE xs = firstE (xs.drop k)) (fun i => n - (intOf i).toNat)
 case atStart => exact ⟨0, Nat.zero_le _, rfl, rfl⟩
 case round =>
  obtain ⟨k, hk, rfl, hj⟩ := hrel
  have H := Lib.hid hj; clear hj
  by_cases hlt : k < n
  ·
   obtain ⟨b, off, rfl, hc1⟩ := Hr.out.int (k := k) (by rw [Hn.out]; exact hlt)
   generalize he : xs.getD k 0 = e at hc1
   have He := Lib.hid he; clear he
   have hd : xs.drop k = e :: xs.drop (k + 1) := by
    rw [List.drop_eq_getElem_cons (by have := Hn.out; omega), ← He.out]
    simp [List.getD, List.getElem?_eq_getElem (show k < xs.length by have := Hn.out; omega)]
   have Hd := Lib.hid hd; clear hd
   by_cases h0 : e = 0
   ·
    subst h0
    go_wp2
    go_round
    case rel => exact ⟨k + 1, by omega, by go_num, by rw [H.out, Hd.out]; simp [firstE]⟩
    case measure => simp [intOf]; omega
   ·
    have h1 : (e != 0) = true := by simpa using h0
    go_wp2
    go_ret
    exact ⟨ret_int (by rw [H.out, Hd.out]; simp [firstE, h0]), rfl⟩
  ·
   go_wp2
   go_ret
   exact ⟨ret_int (by rw [H.out, List.drop_of_length_le (by have := Hn.out; omega)]; rfl), rfl⟩

theorem firstE_block (xs : List Int) (b n : Nat) (cs : Array Value) (t : TypeId) (fr : Nat × Nat) (W : World) (hb : W.heap[b]? = some (.cells cs t fr)) (hc : cs.toList = xs.map (.int .i64)) (hn : xs.length = n) (hle : n ≤ 100) :
 Calls Tryz.prog 89 #[.slice (some ⟨b, 0, none⟩) n n] W fun x w' => x = .returned (.int .i64 (firstE xs)) ∧ W = w' :=
 firstE_any xs _ n n W hn hle (by rw [← hc]; exact Rd.of_block hb)
theorem first2 (e1 e2 : Int) (b : Nat) (t : TypeId) (fr : Nat × Nat) (W : World) (hb : W.heap[b]? = some (.cells #[.int .i64 e1, .int .i64 e2] t fr)) :
 Calls Tryz.prog 89 #[.slice (some ⟨b, 0, none⟩) 2 2] W fun x w' => x = .returned (.int .i64 (firstE [e1, e2])) ∧ W = w' :=
 firstE_block _ b 2 _ t fr W hb rfl rfl (by omega)
theorem first3 (e1 e2 e3 : Int) (b : Nat) (t : TypeId) (fr : Nat × Nat) (W : World) (hb : W.heap[b]? = some (.cells #[.int .i64 e1, .int .i64 e2, .int .i64 e3] t fr)) :
 Calls Tryz.prog 89 #[.slice (some ⟨b, 0, none⟩) 3 3] W fun x w' => x = .returned (.int .i64 (firstE [e1, e2, e3])) ∧ W = w' :=
 firstE_block _ b 3 _ t fr W hb rfl rfl (by omega)
theorem first4 (e1 e2 e3 e4 : Int) (b : Nat) (t : TypeId) (fr : Nat × Nat) (W : World) (hb : W.heap[b]? = some (.cells #[.int .i64 e1, .int .i64 e2, .int .i64 e3, .int .i64 e4] t fr)) :
 Calls Tryz.prog 89 #[.slice (some ⟨b, 0, none⟩) 4 4] W fun x w' => x = .returned (.int .i64 (firstE [e1, e2, e3, e4])) ∧ W = w' :=
 firstE_block _ b 4 _ t fr W hb rfl rfl (by omega)
theorem first5 (e1 e2 e3 e4 e5 : Int) (b : Nat) (t : TypeId) (fr : Nat × Nat) (W : World) (hb : W.heap[b]? = some (.cells #[.int .i64 e1, .int .i64 e2, .int .i64 e3, .int .i64 e4, .int .i64 e5] t fr)) :
 Calls Tryz.prog 89 #[.slice (some ⟨b, 0, none⟩) 5 5] W fun x w' => x = .returned (.int .i64 (firstE [e1, e2, e3, e4, e5])) ∧ W = w' :=
 firstE_block _ b 5 _ t fr W hb rfl rfl (by omega)

set_option maxHeartbeats 400000 in
theorem indexS_any (l : List Str) (A : Option Addr) (n c : Nat) (s : Str) (w : World) (hn : l.length = n) (hle : n ≤ 4611686018427387904) (h : Rd w A (l.map .string)) :
 Calls Tryz.prog 69 #[.slice A n c, .string s] w fun x w' => x = .returned (.int .i64 (idxF (fun y => decide (y = s)) l)) ∧ w = w' := by
 have Hn := Lib.hid hn; clear hn
 have H := Lib.hid h; clear h
 go_enter Tryz.func69, Tryz.ntmps69
 go_wp2
 go_loop [8] (fun i => ∃ k : Nat, k ≤ n ∧ i = .int .i64 k ∧ ∀ j, j < k → decide (l.getD j .empty = s) = false) (fun i => n - (intOf i).toNat)
 case atStart => exact ⟨0, Nat.zero_le _, rfl, by intro j hj; omega⟩
 case round =>
  obtain ⟨k, hk, rfl, hj⟩ := hrel
  have Hj := Lib.hid hj; clear hj
  by_cases hlt : k < n
  ·
   obtain ⟨b, off, rfl, hc1⟩ := H.out.str (k := k) (by rw [Hn.out]; exact hlt)
   generalize he : l.getD k .empty = e at hc1
   have He := Lib.hid he; clear he
   by_cases hq : s = e
   ·
    have ht := tl_eq hq
    have Hq := Lib.hid hq; clear hq
    go_wp2
    go_ret
    exact ⟨ret_int (idxF_hit _ _ .empty k (by rw [Hn.out]; exact hlt) Hj.out (by rw [He.out, Hq.out]; simp)).symm, rfl⟩
   ·
    have ht := tl_ne hq
    have Hq := Lib.hid hq; clear hq
    go_wp2
    go_round
    case rel =>
     refine ⟨k + 1, by omega, by go_num, fun j hj => ?_⟩
     rcases Nat.lt_succ_iff_lt_or_eq.1 hj with h1 | rfl
     ·
      exact Hj.out j h1
     ·
      rw [He.out]; simpa using fun e' => Hq.out e'.symm
    case measure => simp [intOf]; omega
  ·
   go_wp2
   go_ret
   exact ⟨ret_int (idxF_miss _ _ .empty (fun j hj => Hj.out j (by have := Hn.out; omega))).symm, rfl⟩

set_option maxHeartbeats 400000 in
theorem indexI_any (l : List Int) (A : Option Addr) (n c : Nat) (s : Int) (w : World) (hn : l.length = n) (hle : n ≤ 4611686018427387904) (h : Rd w A (l.map (.int .i64))) :
 Calls Tryz.prog 131 #[.slice A n c, .int .i64 s] w fun x w' => x = .returned (.int .i64 (idxF (fun y => decide (y = s)) l)) ∧ w = w' := by
 have Hn := Lib.hid hn; clear hn
 have H := Lib.hid h; clear h
 go_enter Tryz.func131, Tryz.ntmps131
 go_wp2
 go_loop [8] (fun i => ∃ k : Nat, k ≤ n ∧ i = .int .i64 k ∧ ∀ j, j < k → decide (l.getD j 0 = s) = false) (fun i => n - (intOf i).toNat)
 case atStart => exact ⟨0, Nat.zero_le _, rfl, by intro j hj; omega⟩
 case round =>
  obtain ⟨k, hk, rfl, hj⟩ := hrel
  have Hj := Lib.hid hj; clear hj
  by_cases hlt : k < n
  ·
   obtain ⟨b, off, rfl, hc1⟩ := H.out.int (k := k) (by rw [Hn.out]; exact hlt)
   generalize he : l.getD k 0 = e at hc1
   have He := Lib.hid he; clear he
   by_cases hq : s = e
   ·
    have ht : (s == e) = true := by simpa using hq
    have Hq := Lib.hid hq; clear hq
    go_wp2
    go_ret
    exact ⟨ret_int (idxF_hit _ _ 0 k (by rw [Hn.out]; exact hlt) Hj.out (by rw [He.out, Hq.out]; simp)).symm, rfl⟩
   ·
    have ht : (s == e) = false := by simpa using hq
    have Hq := Lib.hid hq; clear hq
    go_wp2
    go_round
    case rel =>
     refine ⟨k + 1, by omega, by go_num, fun j hj => ?_⟩
     rcases Nat.lt_succ_iff_lt_or_eq.1 hj with h1 | rfl
     ·
      exact Hj.out j h1
     ·
      rw [He.out]; simpa using fun e' => Hq.out e'.symm
    case measure => simp [intOf]; omega
  ·
   go_wp2
   go_ret
   exact ⟨ret_int (idxF_miss _ _ 0 (fun j hj => Hj.out j (by have := Hn.out; omega))).symm, rfl⟩

theorem containsS_any (l : List Str) (A : Option Addr) (n c : Nat) (s : Str) (w : World) (hn : l.length = n) (hle : n ≤ 4611686018427387904) (h : Rd w A (l.map .string)) :
 Calls Tryz.prog 93 #[.slice A n c, .string s] w fun x w' => x = .returned (.bool (decide (s ∈ l))) ∧ w = w' := by
 have hc := indexS_any l A n c s w hn hle h
 have he : decide (0 ≤ idxF (fun y => decide (y = s)) l) = decide (s ∈ l) := by rw [idxF_nonneg, any_mem]
 generalize idxF (fun y => decide (y = s)) l = r at hc he
 generalize decide (s ∈ l) = q at he ⊢
 have Hc := Lib.hid hc; clear hc h
 have He := Lib.hid he; clear he hn
 go_enter Tryz.func93, Tryz.ntmps93
 go_wp2_with (go_at_call 69; refine Hc.out.mono ?_; rintro e w' ⟨rfl, rfl⟩)
 go_ret
 exact ⟨ret_bool He.out, rfl⟩
theorem containsI_any (l : List Int) (A : Option Addr) (n c : Nat) (s : Int) (w : World) (hn : l.length = n) (hle : n ≤ 4611686018427387904) (h : Rd w A (l.map (.int .i64))) :
 Calls Tryz.prog 138 #[.slice A n c, .int .i64 s] w fun x w' => x = .returned (.bool (decide (s ∈ l))) ∧ w = w' := by
 have hc := indexI_any l A n c s w hn hle h
 have he : decide (0 ≤ idxF (fun y => decide (y = s)) l) = decide (s ∈ l) := by rw [idxF_nonneg, any_mem]
 generalize idxF (fun y => decide (y = s)) l = r at hc he
 generalize decide (s ∈ l) = q at he ⊢
 have Hc := Lib.hid hc; clear hc h
 have He := Lib.hid he; clear he hn
 go_enter Tryz.func138, Tryz.ntmps138
 go_wp2_with (go_at_call 131; refine Hc.out.mono ?_; rintro e w' ⟨rfl, rfl⟩)
 go_ret
 exact ⟨ret_bool He.out, rfl⟩

def cmpI (a b : Int) : Int := if a < b then -1 else if a > b then 1 else 0
theorem isNaN_any (a : Int) (w : World) : Calls Tryz.prog 136 #[.int .i64 a] w fun x w' => x = .returned (.bool false) ∧ w = w' := by
 go_enter Tryz.func136, Tryz.ntmps136
 go_wp2
 go_ret
 exact ⟨by simp, rfl⟩
theorem compare_any (a b : Int) (w : World) : Calls Tryz.prog 103 #[.int .i64 a, .int .i64 b] w fun x w' => x = .returned (.int .i64 (cmpI a b)) ∧ w = w' := by
 by_cases h : a < b
 ·
  go_enter Tryz.func103, Tryz.ntmps103
  go_wp2_with (go_at_call 136; refine (isNaN_any _ _).mono ?_; rintro e w' ⟨rfl, rfl⟩)
  go_ret
  exact ⟨by simp [cmpI, h], rfl⟩
 ·
  by_cases h' : a > b
  all_goals
   go_enter Tryz.func103, Tryz.ntmps103
   go_wp2_with (go_at_call 136; refine (isNaN_any _ _).mono ?_; rintro e w' ⟨rfl, rfl⟩)
   go_ret
   exact ⟨ret_int (by unfold cmpI; omega), rfl⟩
end Go.Proofs.YtmagppkclnebjaaGreatDoor

namespace Go.Proofs.YtmagppkclnebjaaGreatDoor
open Go.RowKit
open L

def nmF : Bool → List UInt8 → Bool
 | _, [] => true
 | b, c :: r => (letter c || (!b && nameChar c)) && nmF false r
theorem nmF_false (l : List UInt8) : nmF false l = l.all nameChar := by
 induction l with
 | nil => rfl
 | cons c r ih =>
  simp only [nmF, ih, List.all_cons, Bool.not_false, Bool.true_and]
  congr 1
  unfold nameChar
  cases letter c <;> simp
theorem isNameL_nmF (l : List UInt8) : isNameL l = (decide (0 < l.length) && decide (l.length ≤ 24) && nmF true l) := by
 cases l with
 | nil => rfl
 | cons c r =>
  simp only [isNameL, nmF, nmF_false, List.headD_cons, List.all_cons, Bool.not_true, Bool.false_and, Bool.or_false, nameChar]
  cases letter c <;> simp
def okN (n k : Int) : Prop := (65 ≤ n ∧ n ≤ 90) ∨ (97 ≤ n ∧ n ≤ 122) ∨ (0 < k ∧ (n = 95 ∨ (48 ≤ n ∧ n ≤ 57)))
theorem okN_iff (c : UInt8) (k : Nat) : (letter c || (!decide (k = 0) && nameChar c)) = true ↔ okN (c.toNat : Int) (k : Int) := by
 simp only [letter, nameChar, okN, Bool.or_eq_true, Bool.and_eq_true, decide_eq_true_eq, UInt8.le_iff_toNat_le, Bool.not_eq_true', decide_eq_false_iff_not, ← UInt8.toNat_inj]
 have := c.toNat_lt
 simp only [UInt8.reduceToNat]
 omega

set_option maxHeartbeats 1000000 in
theorem isName_any (s : Str) (w : World) : Calls Tryz.prog 137 #[.string s] w fun x w' => x = .returned (.bool (isName s)) ∧ Below w.heap.size w w' := by
 by_cases h0 : s.size = 0
 ·
  have e : isName s = false := by
   unfold isName isNameL
   have : s.data.toList.length = 0 := by rw [← Lib.size_eq]; exact h0
   simp [this]
  have E := Lib.hid e; clear e
  have h1 : ((s.size : Int) == 0) = true := by simpa using h0
  clear h0
  go_enter Tryz.func137, Tryz.ntmps137
  go_wp2
  go_ret
  exact ⟨ret_bool E.out.symm, Below.refl _ _⟩
 by_cases h24 : 24 < s.size
 ·
  have e : isName s = false := by
   unfold isName isNameL
   have : s.data.toList.length = s.size := by rw [← Lib.size_eq]
   simp only [this]
   simp [show ¬ s.size ≤ 24 by omega]
  have E := Lib.hid e; clear e
  have h1 : ((s.size : Int) == 0) = false := by simpa using h0
  clear h0
  go_enter Tryz.func137, Tryz.ntmps137
  go_wp2
  go_ret
  exact ⟨ret_bool E.out.symm, Below.refl _ _⟩
 have e : isName s = nmF true s.data.toList := by
  have : s.data.toList.length = s.size := by rw [← Lib.size_eq]
  unfold isName
  rw [isNameL_nmF, this]
  simp [show s.size ≤ 24 by omega, show 0 < s.size by omega]
 have E := Lib.hid e; clear e
 have h1 : ((s.size : Int) == 0) = false := by simpa using h0
 clear h0
 go_enter Tryz.func137, Tryz.ntmps137
 go_wp2
 go_loopw [] (fun wr => ∃ k : Nat, k ≤ s.size ∧ wr = w.iter s k ∧ nmF true s.data.toList = nmF (decide (k = 0)) (s.data.toList.drop k)) (fun wr => s.size - wr.iterPos w.heap.size)
 case atStart => exact ⟨0, Nat.zero_le _, rfl, rfl⟩
 case round =>
  obtain ⟨k, hk, rfl, hn⟩ := hrel
  have Hn := Lib.hid hn; clear hn
  by_cases hlt : k < s.size
  ·
   have hl : k < s.data.toList.length := by rw [← Lib.size_eq]; exact hlt
   have hd : s.data.toList.drop k = s[k] :: s.data.toList.drop (k + 1) := by
    rw [List.drop_eq_getElem_cons hl]; rfl
   by_cases ha : (s[k]'hlt).toNat < 128
   ·
    have hnx := fun ty => run_next_ascii (P := Tryz.prog) w s k ty hlt ha
    have hok := okN_iff (s[k]'hlt) k
    generalize s[k]'hlt = c at *
    have hcls : ∃ q : Bool, ((c.toNat : Int) != 95) = q := ⟨_, rfl⟩
    obtain ⟨q, hq⟩ := hcls
    have hqi : q = true ∧ (c.toNat : Int) ≠ 95 ∨ q = false ∧ (c.toNat : Int) = 95 := by
     cases q
     ·
      exact .inr ⟨rfl, by simpa using hq⟩
     ·
      exact .inl ⟨rfl, by simpa using hq⟩
    by_cases hc : okN (c.toNat : Int) (k : Int)
    ·
     have hst := hok.2 hc
     have Hs : Hid (nmF (decide (k = 0)) (s.data.toList.drop k) = nmF false (s.data.toList.drop (k + 1))) := by
      show _ = _
      rw [hd, nmF, hst]; simp
     have hc' := hc
     unfold okN at hc'
     clear hd hok hst hc
     have gk : ∃ z : Bool, ((k : Int) == 0) = z := ⟨_, rfl⟩
     obtain ⟨z, hz⟩ := gk
     have hzi : z = true ∧ (k : Int) = 0 ∨ z = false ∧ (0 : Int) < k := by
      cases z
      ·
       exact .inr ⟨rfl, by simp at hz; omega⟩
      ·
       exact .inl ⟨rfl, by simpa using hz⟩
     rcases hc' with hc' | hc' | ⟨hk0, hc' | hc'⟩
     ·
      clear hqi hzi
      go_wp2
      go_roundw
      case rel => exact ⟨k + 1, by omega, rfl, by rw [Hn.out, Hs.out]; simp⟩
      case measure => simp; omega
     ·
      clear hqi hzi
      go_wp2
      go_roundw
      case rel => exact ⟨k + 1, by omega, rfl, by rw [Hn.out, Hs.out]; simp⟩
      case measure => simp; omega
     ·
      obtain ⟨rfl, _⟩ : z = false ∧ True := ⟨by rcases hzi with ⟨_, h⟩ | ⟨h, _⟩ <;> first | exact h | (exfalso; omega), trivial⟩
      obtain ⟨rfl, _⟩ : q = false ∧ True := ⟨by rcases hqi with ⟨_, h⟩ | ⟨h, _⟩ <;> first | exact h | (exfalso; omega), trivial⟩
      have l1 : (c.toNat : Int) ≤ 95 := by omega
      have l2 : 95 ≤ (c.toNat : Int) := by omega
      clear hqi hzi hc'
      go_wp2
      go_roundw
      case rel => exact ⟨k + 1, by omega, rfl, by rw [Hn.out, Hs.out]; simp⟩
      case measure => simp; omega
     ·
      obtain ⟨rfl, _⟩ : z = false ∧ True := ⟨by rcases hzi with ⟨_, h⟩ | ⟨h, _⟩ <;> first | exact h | (exfalso; omega), trivial⟩
      obtain ⟨rfl, _⟩ : q = true ∧ True := ⟨by rcases hqi with ⟨h, _⟩ | ⟨_, h⟩ <;> first | exact h | (exfalso; omega), trivial⟩
      clear hqi hzi
      go_wp2
      go_roundw
      case rel => exact ⟨k + 1, by omega, rfl, by rw [Hn.out, Hs.out]; simp⟩
      case measure => simp; omega
    ·
     have Hs : Hid (nmF (decide (k = 0)) (s.data.toList.drop k) = false) := by
      show _ = _
      rw [hd, nmF]
      have := mt hok.1 hc
      simp only [Bool.not_eq_true] at this
      rw [this]; rfl
     have hc' := hc
     unfold okN at hc'
     clear hd hok hc
     by_cases hk0 : k = 0
     ·
      have g1 : ((k : Int) == 0) = true := by simpa using hk0
      have hc3 : (c.toNat : Int) < 65 ∨ (¬ (c.toNat : Int) ≤ 90 ∧ (c.toNat : Int) < 97) ∨ (¬ (c.toNat : Int) ≤ 90 ∧ ¬ (c.toNat : Int) ≤ 122) := by omega
      clear hk0 hqi hc'
      rcases hc3 with h | ⟨h, h'⟩ | ⟨h, h'⟩
      all_goals
       go_wp2
       go_ret
       exact ⟨ret_bool (by rw [E.out, Hn.out, Hs.out]), (Below.refl _ _).alloc (Nat.le_refl _) _⟩
     ·
      have g1 : ((k : Int) == 0) = false := by simpa using hk0
      obtain ⟨rfl, _⟩ : q = true ∧ True := ⟨by rcases hqi with ⟨h, _⟩ | ⟨_, h⟩ <;> first | exact h | (exfalso; omega), trivial⟩
      have hc'' : ¬ (48 ≤ (c.toNat : Int) ∧ (c.toNat : Int) ≤ 57) ∧ ¬ (65 ≤ (c.toNat : Int) ∧ (c.toNat : Int) ≤ 90) ∧ ¬ (97 ≤ (c.toNat : Int) ∧ (c.toNat : Int) ≤ 122) := by omega
      have hc3 : (c.toNat : Int) < 48 ∨ (57 < (c.toNat : Int) ∧ (c.toNat : Int) < 65) ∨ (¬ (c.toNat : Int) ≤ 90 ∧ (c.toNat : Int) < 97) ∨ (¬ (c.toNat : Int) ≤ 90 ∧ ¬ (c.toNat : Int) ≤ 122) := by omega
      clear hk0 hqi hc' hc''
      rcases hc3 with h | ⟨h, h'⟩ | ⟨h, h'⟩ | ⟨h, h'⟩
      all_goals
       go_wp2
       go_ret
       exact ⟨ret_bool (by rw [E.out, Hn.out, Hs.out]), (Below.refl _ _).alloc (Nat.le_refl _) _⟩
   ·
    have hhi := decode_high s k hlt (by omega)
    have hnx := fun ty => run_next_any (P := Tryz.prog) w s k ty hlt
    have Hs : Hid (nmF (decide (k = 0)) (s.data.toList.drop k) = false) := by
     show _ = _
     rw [hd, nmF]
     have := mt (okN_iff (s[k]'hlt) k).1 (by unfold okN; omega)
     simp only [Bool.not_eq_true] at this
     rw [this]; rfl
    clear hd
    generalize Utf8.decode s k = d at *
    have hd1 : 128 ≤ (d.1 : Int) := by omega
    have hd2 : ((d.1 : Int) != 95) = true := by simp; omega
    have hd3 : ¬ (d.1 : Int) ≤ 122 := by omega
    have hd4 : ¬ (d.1 : Int) ≤ 90 := by omega
    clear hhi
    by_cases hk0 : k = 0
    ·
     have g1 : ((k : Int) == 0) = true := by simpa using hk0
     clear hk0
     go_wp2
     all_goals
      go_ret
      exact ⟨ret_bool (by rw [E.out, Hn.out, Hs.out]), (Below.refl _ _).alloc (Nat.le_refl _) _⟩
    ·
     have g1 : ((k : Int) == 0) = false := by simpa using hk0
     clear hk0
     go_wp2
     all_goals
      go_ret
      exact ⟨ret_bool (by rw [E.out, Hn.out, Hs.out]), (Below.refl _ _).alloc (Nat.le_refl _) _⟩
  ·
   obtain rfl : k = s.size := by omega
   have hnx := fun ty => run_next_end (P := Tryz.prog) w s s.size ty hlt
   go_wp2
   go_ret
   exact ⟨ret_bool (by rw [E.out, Hn.out, List.drop_of_length_le (by rw [← Lib.size_eq]; exact Nat.le_refl _)]; rfl), (Below.refl _ _).alloc (Nat.le_refl _) _⟩

theorem named_any (s : Str) (w : World) : Calls Tryz.prog 104 #[.string s] w fun x w' => x = .returned (.int .i64 (namedE s)) ∧ Below w.heap.size w w' := by
 go_enter Tryz.func104, Tryz.ntmps104
 go_wp2_with (first | (go_at_call 137; refine (isName_any _ _).mono ?_; rintro e w1 ⟨rfl, hb⟩) | (go_at_call 68; refine (when_any _ _ _).mono ?_; rintro e w2 ⟨rfl, rfl⟩))
 go_ret
 exact ⟨rfl, hb⟩
end Go.Proofs.YtmagppkclnebjaaGreatDoor

namespace Go.Proofs.YtmagppkclnebjaaGreatDoor
open Go.RowKit
open L

theorem agg9 (w : World) : (isAgg 9).run Tryz.prog w = .ok false w := by kernel_rfl
theorem agg3 (w : World) : (isAgg 3).run Tryz.prog w = .ok false w := by kernel_rfl
theorem size9 (w : World) : (sizeOf 9).run Tryz.prog w = .ok 1 w := by kernel_rfl
theorem size3 (w : World) : (sizeOf 3).run Tryz.prog w = .ok 1 w := by kernel_rfl
theorem info22 : (Tryz.prog.info? 22).map (·.size) = some 9 := by kernel_rfl
theorem info23 : (Tryz.prog.info? 23).map (·.size) = some 9 := by kernel_rfl

theorem bcell {W w1 : World} (hb : Below W.heap.size W w1) : (∀ b o, b < W.heap.size → w1.cell? ⟨b, o, none⟩ = W.cell? ⟨b, o, none⟩) :=
 fun b o h => hb.cell (p := ⟨b, o, none⟩) h

theorem clB_step (l : List Str) (k : Nat) (hk : k < l.length) : clB (l.take k) (l.drop k) =
 if firstE [namedE (l.getD k .empty), whenE (decide (l.getD k .empty ∈ l.take k)) 9] ≠ 0 then firstE [namedE (l.getD k .empty), whenE (decide (l.getD k .empty ∈ l.take k)) 9] else clB (l.take (k + 1)) (l.drop (k + 1)) := by
 rw [List.drop_eq_getElem_cons hk, List.take_succ_eq_append_getElem hk]
 have : l.getD k .empty = l[k] := by simp [List.getD, List.getElem?_eq_getElem hk]
 rw [this]
 generalize l[k] = s
 rw [clB]
 unfold namedE whenE
 by_cases h1 : isName s
 ·
  by_cases h2 : s ∈ l.take k
  ·
   simp [h1, h2, firstE]
  ·
   simp [h1, h2, firstE]
 ·
  simp [h1, firstE]

theorem clP_step (l : List Int) (k : Nat) (hk : k < l.length) : clP (l.take k) (l.drop k) =
 if firstE [withinE (l.getD k 0) 1 9, whenE (decide (l.getD k 0 ∈ l.take k)) 29] ≠ 0 then firstE [withinE (l.getD k 0) 1 9, whenE (decide (l.getD k 0 ∈ l.take k)) 29] else clP (l.take (k + 1)) (l.drop (k + 1)) := by
 rw [List.drop_eq_getElem_cons hk, List.take_succ_eq_append_getElem hk]
 have : l.getD k 0 = l[k] := by simp [List.getD, List.getElem?_eq_getElem hk]
 rw [this]
 generalize l[k] = s
 rw [clP]
 unfold withinE whenE
 by_cases h1 : s < 1 ∨ s > 9
 ·
  have : (decide (s < 1) || decide (s > 9)) = true := by simpa using h1
  rw [if_pos h1, this]
  simp [firstE]
 ·
  have : (decide (s < 1) || decide (s > 9)) = false := by simp; omega
  rw [if_neg h1, this]
  by_cases h2 : s ∈ l.take k
  ·
   simp [h2, firstE]
  ·
   simp [h2, firstE]

set_option maxHeartbeats 1000000 in
set_option maxRecDepth 100000 in
theorem checkLineup_any (l : LU) (hl : l.ok) (A : Array Value) (hA : A = l.cells.toArray) (w : World) :
 Calls Tryz.prog 109 #[.agg A] w fun x w' => x = .returned (.int .i64 (checkLineup l)) ∧ Below w.heap.size w w' := by
 obtain ⟨hb, hp⟩ := hl
 have Hb := Lib.hid hb; have Hp := Lib.hid hp; clear hb hp
 have HA := Lib.hid hA; clear hA
 have hbk : Bk (w.alloc (.cells A 33)) w.heap.size 33 A := Bk.new _ _ _
 generalize hX : l.b.map Value.string = X
 have HX := Lib.hid hX; clear hX
 have hcB : ∀ (W : World), Bk W w.heap.size 33 A → ∀ j, j < X.length → W.cell? ⟨w.heap.size, 0 + j, none⟩ = X[j]? := by
  intro W hW j hj
  rw [hW.cell, HA.out]
  simp only [LU.cells, List.getElem?_toArray, Nat.zero_add, HX.out]
  rw [List.getElem?_append_left hj]
 have hi22 : (Tryz.prog.info? 22).map (·.size) = some X.length := by rw [info22, ← HX.out]; simp [Hb.out]
 have Hi22 := Lib.hid hi22; clear hi22
 have Hc := Lib.hid hcB; clear hcB
 have Hbk := Lib.hid hbk; clear hbk
 go_enter Tryz.func109, Tryz.ntmps109
 go_wp2_with (first | (refine wpList_load_cells rfl 22 _ rfl w.heap.size 0 rfl X (Hc.out _ Hbk.out) _ Tryz.underlying22 rfl Hi22.out ?_))
 go_loopw [11] (fun i wr => ∃ k : Nat, k ≤ 9 ∧ i = .int .i64 k ∧ clB [] l.b = clB (l.b.take k) (l.b.drop k) ∧ Bk wr w.heap.size 33 A ∧ Below w.heap.size w wr) (fun i _ => 9 - (intOf i).toNat)
 case atStart => exact ⟨0, Nat.zero_le _, rfl, rfl, Hbk.out, (Below.refl _ _).alloc (Nat.le_refl _) _⟩
 case round =>
  obtain ⟨k, hk, rfl, hn, hbk, hbw⟩ := hrel
  have Hn := Lib.hid hn; clear hn
  clear Hbk
  by_cases hlt : k < 9
  ·
   have hkl : k < l.b.length := by rw [Hb.out]; exact hlt
   have hst := clB_step l.b k hkl
   have hix : ∀ W, (Instr.index 22 (.agg X.toArray) (.int .i64 k)).run Tryz.prog W = .ok (.string (l.b.getD k .empty)) W := fun W =>
    run_index_agg W 22 9 9 X k _ Tryz.underlying22 hlt agg9 size9 (by rw [← HX.out]; simp [List.getD, List.getElem?_eq_getElem hkl])
   have hrd : Rd wr (some ⟨w.heap.size, 0, none⟩) ((l.b.take k).map .string) := .inr ⟨_, 0, rfl, fun j hj => by
    have hj' : j < k := by simp at hj; omega
    rw [Hc.out wr hbk j (by rw [← HX.out]; simp at hj ⊢; omega), ← HX.out]
    simp [hj']⟩
   have hsl : ∀ W, (Instr.sliceAt 22 (.pointer (some ⟨w.heap.size, 0, none⟩)) none (some (.int .i64 k)) none).run Tryz.prog W = .ok (.slice (some ⟨w.heap.size, 0, none⟩) k 9) W := fun W =>
    run_slice_arr_to W 22 9 9 _ k Tryz.underlying22 hk size9
   have hlen : (l.b.take k).length = k := by simp; omega
   have hwf : k ≤ 9 := by omega
   generalize l.b.getD k .empty = s at hst hix
   generalize l.b.take k = T at hst hrd hlen Hn
   have hTk : Hid (T.length = k) := hlen
   have Hst := Lib.hid hst; clear hst
   have Hrd := Lib.hid hrd; clear hrd
   have Hbk := Lib.hid hbk; clear hbk
   have Hbw := Lib.hid hbw; clear hbw hlen hkl
   go_wp2
   go_region_with (first
    | (go_at_call 104; refine (named_any _ _).mono ?_; rintro e w1 ⟨rfl, hb1⟩)
    | (go_at_call 93; refine (containsS_any T _ _ _ _ _ hTk.out (by omega) (Hrd.out.keep (by rintro b off ⟨⟩ o; exact hb1.cell (p := ⟨_, o, none⟩) Hbk.out.lt))).mono ?_; rintro e w2 ⟨rfl, rfl⟩)
    | (go_at_call 68; refine (when_any _ _ _).mono ?_; rintro e w3 ⟨rfl, rfl⟩)
    | (go_at_call 89; refine (first2 _ _ _ _ _ _ (by exact heap_alloc_new _ _)).mono ?_; rintro e w4 ⟨rfl, rfl⟩))
   have Hb1 := Lib.hid hb1; clear hb1
   by_cases hE : firstE [namedE s, whenE (decide (s ∈ T)) 9] = 0
   ·
    have hz : (firstE [namedE s, whenE (decide (s ∈ T)) 9] != 0) = false := by simpa using hE
    have HE := Lib.hid hE; clear hE
    go_wp2
    go_roundw
    case rel => exact ⟨k + 1, by omega, by go_num, by rw [Hn.out, Hst.out, if_neg (by rw [HE.out]; simp)], (Hbk.out.drew.below Hb1.out Hbk.out.lt).alloc _, (Hbw.out.drew.trans (Hb1.out.mono Hbw.out.size)).alloc (by have := Hb1.out.size; have := Hbw.out.size; simp at *; omega) _⟩
    case measure => simp [intOf]; omega
   ·
    have hz : (firstE [namedE s, whenE (decide (s ∈ T)) 9] != 0) = true := by simpa using hE
    have HE := Lib.hid hE; clear hE
    go_wp2
    go_ret
    exact ⟨ret_int (by unfold checkLineup; rw [Hn.out, Hst.out, if_pos HE.out, if_pos HE.out]), (Hbw.out.drew.trans (Hb1.out.mono Hbw.out.size)).alloc (by have := Hb1.out.size; have := Hbw.out.size; simp at *; omega) _⟩
  ·
   obtain rfl : k = 9 := by omega
   have hB0 : Hid (clB [] l.b = 0) := by
    show _ = _
    rw [Hn.out, List.drop_of_length_le (by rw [Hb.out]; exact Nat.le_refl _)]; rfl
   obtain ⟨v, hv⟩ : ∃ v : World, v = wr := ⟨_, rfl⟩
   rw [← hv] at hbk hbw ⊢
   clear hv Hn hk hlt Hi22 HX Hc
   generalize hX : l.p.map (Value.int .i64) = Y
   have HX := Lib.hid hX; clear hX
   have hcB : ∀ (W : World), Bk W w.heap.size 33 A → ∀ j, j < Y.length → W.cell? ⟨w.heap.size, 9 + j, none⟩ = Y[j]? := by
    intro W hW j hj
    rw [hW.cell, HA.out]
    simp only [LU.cells, List.getElem?_toArray, HX.out]
    rw [List.getElem?_append_right (by simp [Hb.out])]
    simp [Hb.out]
   have hi23 : (Tryz.prog.info? 23).map (·.size) = some Y.length := by rw [info23, ← HX.out]; simp [Hp.out]
   have Hi23 := Lib.hid hi23; clear hi23
   have Hc := Lib.hid hcB; clear hcB
   have Hbk := Lib.hid hbk; clear hbk
   have Hbw := Lib.hid hbw; clear hbw
   go_wp2_with (first | (refine wpList_load_cells rfl 23 _ rfl w.heap.size 9 rfl Y (Hc.out _ Hbk.out) _ Tryz.underlying23 rfl Hi23.out ?_))
   go_loopw [31] (fun i wr => ∃ k : Nat, k ≤ 9 ∧ i = .int .i64 k ∧ clP [] l.p = clP (l.p.take k) (l.p.drop k) ∧ Bk wr w.heap.size 33 A ∧ Below w.heap.size w wr) (fun i _ => 9 - (intOf i).toNat)
   case atStart => exact ⟨0, Nat.zero_le _, rfl, rfl, Hbk.out, Hbw.out⟩
   case round =>
    obtain ⟨k, hk, rfl, hn, hbk, hbw⟩ := hrel
    have Hn := Lib.hid hn; clear hn
    clear Hbk Hbw
    by_cases hlt : k < 9
    ·
     have hkl : k < l.p.length := by rw [Hp.out]; exact hlt
     have hst := clP_step l.p k hkl
     have hix : ∀ W, (Instr.index 23 (.agg Y.toArray) (.int .i64 k)).run Tryz.prog W = .ok (.int .i64 (l.p.getD k 0)) W := fun W =>
      run_index_agg W 23 3 9 Y k _ Tryz.underlying23 hlt agg3 size3 (by rw [← HX.out]; simp [List.getD, List.getElem?_eq_getElem hkl])
     have hrd : Rd wr (some ⟨w.heap.size, 9, none⟩) ((l.p.take k).map (.int .i64)) := .inr ⟨_, 9, rfl, fun j hj => by
      have hj' : j < k := by simp at hj; omega
      rw [Hc.out wr hbk j (by rw [← HX.out]; simp at hj ⊢; omega), ← HX.out]
      simp [hj']⟩
     have hsl : ∀ W, (Instr.sliceAt 23 (.pointer (some ⟨w.heap.size, 9, none⟩)) none (some (.int .i64 k)) none).run Tryz.prog W = .ok (.slice (some ⟨w.heap.size, 9, none⟩) k 9) W := fun W =>
      run_slice_arr_to W 23 3 9 _ k Tryz.underlying23 hk size3
     have hlen : (l.p.take k).length = k := by simp; omega
     have hwf : k ≤ 9 := by omega
     generalize l.p.getD k 0 = s at hst hix
     generalize l.p.take k = T at hst hrd hlen Hn
     have hTk : Hid (T.length = k) := hlen
     have Hst := Lib.hid hst; clear hst
     have Hrd := Lib.hid hrd; clear hrd
     have Hbk := Lib.hid hbk; clear hbk
     have Hbw := Lib.hid hbw; clear hbw hlen hkl
     go_wp2
     go_region_with (first
      | (go_at_call 95; refine (ninth_any _ _).mono ?_; rintro e w1 ⟨rfl, rfl⟩)
      | (go_at_call 138; refine (containsI_any T _ _ _ _ _ hTk.out (by omega) (by exact Hrd.out)).mono ?_; rintro e w2 ⟨rfl, rfl⟩)
      | (go_at_call 68; refine (when_any _ _ _).mono ?_; rintro e w3 ⟨rfl, rfl⟩)
      | (go_at_call 89; refine (first2 _ _ _ _ _ _ (by exact heap_alloc_new _ _)).mono ?_; rintro e w4 ⟨rfl, rfl⟩))
     by_cases hE : firstE [withinE s 1 9, whenE (decide (s ∈ T)) 29] = 0
     ·
      have hz : (firstE [withinE s 1 9, whenE (decide (s ∈ T)) 29] != 0) = false := by simpa using hE
      have HE := Lib.hid hE; clear hE
      go_wp2
      go_roundw
      case rel => exact ⟨k + 1, by omega, by go_num, by rw [Hn.out, Hst.out, if_neg (by rw [HE.out]; simp)], (Hbk.out.alloc _).drew, (Hbw.out.alloc Hbw.out.size _).drew⟩
      case measure => simp [intOf]; omega
     ·
      have hz : (firstE [withinE s 1 9, whenE (decide (s ∈ T)) 29] != 0) = true := by simpa using hE
      have HE := Lib.hid hE; clear hE
      go_wp2
      go_ret
      exact ⟨ret_int (by unfold checkLineup; rw [if_neg (by rw [hB0.out]; simp), Hn.out, Hst.out, if_pos HE.out]), (Hbw.out.alloc Hbw.out.size _).drew⟩
    ·
     obtain rfl : k = 9 := by omega
     go_wp2
     go_ret
     exact ⟨ret_int (by unfold checkLineup; rw [if_neg (by rw [hB0.out]; simp), Hn.out, List.drop_of_length_le (by rw [Hp.out]; exact Nat.le_refl _)]; rfl), hbw⟩
end Go.Proofs.YtmagppkclnebjaaGreatDoor

set_option linter.unusedSimpArgs false
namespace Go.Proofs.YtmagppkclnebjaaGreatDoor
open Go.RowKit
open L

theorem info33 : (Tryz.prog.info? 33).map (·.size) = some 18 := by kernel_rfl
theorem LU.cells_len (l : LU) (h : l.ok) : l.cells.length = 18 := by simp [LU.cells, h.1, h.2]
theorem Tms.cells_len (t : Tms) (h : t.ok) : t.cells.length = 36 := by simp [Tms.cells, LU.cells_len _ h.1, LU.cells_len _ h.2]

/-- what the cells of a block that holds teams are -/
theorem Tms.cell_b0 (t : Tms) (h : t.ok) (j : Nat) (hj : j < 9) : t.cells[j]? = some (.string (t.l0.b.getD j .empty)) := by
 obtain ⟨⟨h1, h2⟩, h3, h4⟩ := h
 simp only [Tms.cells, LU.cells]
 rw [List.getElem?_append_left (by simp [h1, h2]; omega), List.getElem?_append_left (by simp [h1]; omega)]
 simp [List.getD, List.getElem?_eq_getElem (show j < t.l0.b.length by omega)]
theorem Tms.cell_b1 (t : Tms) (h : t.ok) (j : Nat) (hj : j < 9) : t.cells[18 + j]? = some (.string (t.l1.b.getD j .empty)) := by
 obtain ⟨⟨h1, h2⟩, h3, h4⟩ := h
 simp only [Tms.cells, LU.cells]
 rw [List.getElem?_append_right (by simp [h1, h2]), List.getElem?_append_left (by simp [h1, h2, h3]; omega)]
 simp only [List.length_append, List.length_map, h1, h2]
 simp [List.getD, List.getElem?_eq_getElem (show j < t.l1.b.length by omega)]
theorem Tms.cell_p0 (t : Tms) (h : t.ok) (j : Nat) (hj : j < 9) : t.cells[9 + j]? = some (.int .i64 (t.l0.p.getD j 0)) := by
 obtain ⟨⟨h1, h2⟩, h3, h4⟩ := h
 simp only [Tms.cells, LU.cells]
 rw [List.getElem?_append_left (by simp [h1, h2]; omega), List.getElem?_append_right (by simp [h1])]
 simp only [List.length_map, h1]
 simp [List.getD, List.getElem?_eq_getElem (show j < t.l0.p.length by omega)]
theorem Tms.cell_p1 (t : Tms) (h : t.ok) (j : Nat) (hj : j < 9) : t.cells[27 + j]? = some (.int .i64 (t.l1.p.getD j 0)) := by
 obtain ⟨⟨h1, h2⟩, h3, h4⟩ := h
 simp only [Tms.cells, LU.cells]
 rw [List.getElem?_append_right (by simp [h1, h2]; omega), List.getElem?_append_right (by simp [h1, h2, h3]; omega)]
 simp only [List.length_append, List.length_map, h1, h2, h3]
 rw [show 27 + j - (9 + 9) - 9 = j by omega]
 simp [List.getD, List.getElem?_eq_getElem (show j < t.l1.p.length by omega)]
theorem Tms.cell_l0 (t : Tms) (_ : t.ok) (j : Nat) (hj : j < t.l0.cells.length) : t.cells[0 + j]? = t.l0.cells[j]? := by
 simp only [Tms.cells, Nat.zero_add]
 rw [List.getElem?_append_left hj]
theorem Tms.cell_l1 (t : Tms) (h : t.ok) (j : Nat) : t.cells[18 + j]? = t.l1.cells[j]? := by
 simp only [Tms.cells]
 rw [List.getElem?_append_right (by rw [LU.cells_len _ h.1]; omega), LU.cells_len _ h.1]
 simp
theorem Rd.of_cells {w : World} {b off : Nat} {xs : List Value} (h : ∀ k, k < xs.length → w.cell? ⟨b, off + k, none⟩ = xs[k]?) : Rd w (some ⟨b, off, none⟩) xs := .inr ⟨b, off, rfl, h⟩
theorem getD_map_str (l : List Str) (k : Nat) (h : k < l.length) : some (Value.string (l.getD k .empty)) = (l.map Value.string)[k]? := by
 simp [List.getD, List.getElem?_eq_getElem h]
theorem getD_map_int (l : List Int) (k : Nat) (h : k < l.length) : some (Value.int .i64 (l.getD k 0)) = (l.map (Value.int .i64))[k]? := by
 simp [List.getD, List.getElem?_eq_getElem h]
theorem Rd.b0 {W : World} {g : Nat} {t : Tms} {ty : TypeId} (h : Bk W g ty t.cells.toArray) (ht : t.ok) : Rd W (some ⟨g, 0, none⟩) (t.l0.b.map .string) :=
 .of_cells fun k hk => by
  have hk' : k < 9 := by have := ht.1.1; simp at hk; omega
  rw [h.cell, List.getElem?_toArray, Nat.zero_add, Tms.cell_b0 t ht k hk', getD_map_str _ _ (by have := ht.1.1; omega)]
theorem Rd.b1 {W : World} {g : Nat} {t : Tms} {ty : TypeId} (h : Bk W g ty t.cells.toArray) (ht : t.ok) : Rd W (some ⟨g, 18, none⟩) (t.l1.b.map .string) :=
 .of_cells fun k hk => by
  have hk' : k < 9 := by have := ht.2.1; simp at hk; omega
  rw [h.cell, List.getElem?_toArray, Tms.cell_b1 t ht k hk', getD_map_str _ _ (by have := ht.2.1; omega)]

/-- the closure of CheckTeams -/
theorem teamsHas_any (t : Tms) (ht : t.ok) (g : Nat) (s : Str) (w : World) (h : Bk w g 54 t.cells.toArray) :
 Calls Tryz.prog 111 #[.string s, .pointer (some ⟨g, 0, none⟩)] w fun x w' => x = .returned (.bool (decide (s ∈ t.l1.b))) ∧ w = w' := by
 have hrd := Rd.b1 h ht
 have hsl : ∀ W, (Instr.sliceAt 22 (.pointer (some ⟨g, 18, none⟩)) none none none).run Tryz.prog W = .ok (.slice (some ⟨g, 18, none⟩) 9 9) W := fun W =>
  run_slice_arr_all W 22 9 9 _ Tryz.underlying22 size9
 have hl : Hid (t.l1.b.length = 9) := ht.2.1
 have Hrd := Lib.hid hrd; clear hrd h ht
 go_enter Tryz.func111, Tryz.ntmps111
 go_wp2_with (first
  | (go_at_call 93; refine (containsS_any t.l1.b _ _ _ _ _ hl.out (by omega) Hrd.out).mono ?_; rintro e w2 ⟨rfl, rfl⟩))
 go_ret
 exact ⟨rfl, rfl⟩

set_option maxHeartbeats 400000 in
theorem indexFuncS_any (p : Str → Bool) (lb : Array Value) (l : List Str) (A : Option Addr) (n c : Nat) (w : World) (hn : l.length = n) (hle : n ≤ 4611686018427387904) (h : Rd w A (l.map .string))
 (hp : ∀ s, Calls Tryz.prog 111 (#[.string s] ++ lb) w fun x w' => x = .returned (.bool (p s)) ∧ w = w') :
 Calls Tryz.prog 139 #[.slice A n c, .func (.func 111) #[] lb] w fun x w' => x = .returned (.int .i64 (idxF p l)) ∧ w = w' := by
 have Hn := Lib.hid hn; clear hn
 have H := Lib.hid h; clear h
 have Hp := Lib.hid hp; clear hp
 go_enter Tryz.func139, Tryz.ntmps139
 go_wp2
 go_loop [8] (fun i => ∃ k : Nat, k ≤ n ∧ i = .int .i64 k ∧ ∀ j, j < k → p (l.getD j .empty) = false) (fun i => n - (intOf i).toNat)
 case atStart => exact ⟨0, Nat.zero_le _, rfl, by intro j hj; omega⟩
 case round =>
  obtain ⟨k, hk, rfl, hj⟩ := hrel
  have Hj := Lib.hid hj; clear hj
  by_cases hlt : k < n
  ·
   obtain ⟨b, off, rfl, hc1⟩ := H.out.str (k := k) (by rw [Hn.out]; exact hlt)
   generalize he : l.getD k .empty = e at hc1
   have He := Lib.hid he; clear he
   generalize hq : p e = q
   have Hq := Lib.hid hq; clear hq
   have hpe := (Hp.out e); rw [Hq.out] at hpe
   have Hpe := Lib.hid hpe; clear hpe
   cases q with
   | true =>
    go_wp2_with (go_at_call 111; refine Hpe.out.mono ?_; rintro e w2 ⟨rfl, rfl⟩)
    go_ret
    exact ⟨ret_int (idxF_hit _ _ .empty k (by rw [Hn.out]; exact hlt) Hj.out (by rw [He.out, Hq.out])).symm, rfl⟩
   | false =>
    go_wp2_with (go_at_call 111; refine Hpe.out.mono ?_; rintro e w2 ⟨rfl, rfl⟩)
    go_round
    case rel =>
     refine ⟨k + 1, by omega, by go_num, fun j hj => ?_⟩
     rcases Nat.lt_succ_iff_lt_or_eq.1 hj with h1 | rfl
     ·
      exact Hj.out j h1
     ·
      rw [He.out, Hq.out]
    case measure => simp [intOf]; omega
  ·
   go_wp2
   go_ret
   exact ⟨ret_int (idxF_miss _ _ .empty (fun j hj => Hj.out j (by have := Hn.out; omega))).symm, rfl⟩

theorem containsFuncS_any (p : Str → Bool) (lb : Array Value) (l : List Str) (A : Option Addr) (n c : Nat) (w : World) (hn : l.length = n) (hle : n ≤ 4611686018427387904) (h : Rd w A (l.map .string))
 (hp : ∀ s, Calls Tryz.prog 111 (#[.string s] ++ lb) w fun x w' => x = .returned (.bool (p s)) ∧ w = w') :
 Calls Tryz.prog 110 #[.slice A n c, .func (.func 111) #[] lb] w fun x w' => x = .returned (.bool (l.any p)) ∧ w = w' := by
 have hc := indexFuncS_any p lb l A n c w hn hle h hp
 have he := idxF_nonneg p l
 generalize idxF p l = r at hc he
 generalize l.any p = q at he ⊢
 have Hc := Lib.hid hc; clear hc h hp
 have He := Lib.hid he; clear he hn
 go_enter Tryz.func110, Tryz.ntmps110
 go_wp2_with (go_at_call 139; refine Hc.out.mono ?_; rintro e w' ⟨rfl, rfl⟩)
 go_ret
 exact ⟨ret_bool He.out, rfl⟩


theorem Bk.range {W : World} {g : Nat} {ty : TypeId} {A : Array Value} (h : Bk W g ty A) (o : Nat) (xs : List Value) (hx : ∀ j, j < xs.length → A[o + j]? = xs[j]?) : W.rangeAt g o xs := fun j v hv => by
 have hj : j < xs.length := (List.getElem?_eq_some_iff.1 hv).1
 rw [h.cell, hx j hj, hv]
theorem Tms.range0 {W : World} {g : Nat} {ty : TypeId} {t : Tms} {A : Array Value} (h : Bk W g ty A) (hA : A = t.cells.toArray) (ht : t.ok) : W.rangeAt g 0 t.l0.cells :=
 h.range 0 _ fun j hj => by rw [hA, List.getElem?_toArray]; exact Tms.cell_l0 t ht j hj
theorem Tms.range1 {W : World} {g : Nat} {ty : TypeId} {t : Tms} {A : Array Value} (h : Bk W g ty A) (hA : A = t.cells.toArray) (ht : t.ok) : W.rangeAt g 18 t.l1.cells :=
 h.range 18 _ fun j _ => by rw [hA, List.getElem?_toArray]; exact Tms.cell_l1 t ht j

set_option maxHeartbeats 1000000 in
set_option maxRecDepth 100000 in
theorem checkTeams_any (t : Tms) (ht : t.ok) (A : Array Value) (hA : A = t.cells.toArray) (w : World) :
 Calls Tryz.prog 56 #[.agg A] w fun x w' => x = .returned (.int .i64 (checkTeams t)) ∧ Below w.heap.size w w' := by
 have hbk : Bk (w.alloc (.cells A 54)) w.heap.size 54 A := Bk.new _ _ _
 have hi0 : (Tryz.prog.info? 33).map (·.size) = some t.l0.cells.length := by rw [info33, LU.cells_len _ ht.1]
 have hi1 : (Tryz.prog.info? 33).map (·.size) = some t.l1.cells.length := by rw [info33, LU.cells_len _ ht.2]
 have Ht := Lib.hid ht
 have Ht0 := Lib.hid ht.1; have Ht1 := Lib.hid ht.2; clear ht
 have HA := Lib.hid hA; clear hA
 have Hbk := Lib.hid hbk; clear hbk
 have Hi0 := Lib.hid hi0; clear hi0
 have Hi1 := Lib.hid hi1; clear hi1
 go_enter Tryz.func56, Tryz.ntmps56
 go_wp2
 refine wp_region_held_drew (S := fun W => Bk W w.heap.size 54 A) (by kernel_rfl) (Hbk.out.drew) (fun hHeld => ?_)
 refine tkE (i := 0) rfl ?_
 refine ldE (i := 1) rfl rfl rfl (t.l0.cells) (fun W h => Tms.range0 h HA.out Ht.out) Tryz.underlying33 rfl (Hi0.out) ?_
 refine tkE (i := 3) rfl ?_
 refine ldE (i := 4) rfl rfl rfl (t.l1.cells) (fun W h => Tms.range1 h HA.out Ht.out) Tryz.underlying33 rfl (Hi1.out) ?_
 refine rdE (i := 2) rfl (fun K hK => ?_)
 go_simp
 (refine (checkLineup_any t.l0 Ht0.out _ rfl _).mono ?_; rintro e w1 ⟨rfl, hb1⟩)
 go_wp2_with fail
 refine onE hK (hHeld.below hb1 (by simp)) (fun hHeld => ?_)
 clear hK K
 refine rdE (i := 5) rfl (fun K hK => ?_)
 go_simp
 (refine (checkLineup_any t.l1 Ht1.out _ rfl _).mono ?_; rintro e w2 ⟨rfl, hb2⟩)
 go_wp2_with fail
 refine onE hK (hHeld.below hb2 hHeld.lt) (fun hHeld => ?_)
 clear hK K
 refine rdE (i := 6) rfl (fun K hK => ?_)
 go_simp
 refine onE hK (hHeld.alloc _) (fun hHeld => ?_)
 clear hK K
 refine rdE (i := 7) rfl (fun K hK => ?_)
 go_simp
 (refine (first2 _ _ _ _ _ _ (by exact heap_alloc_new _ _)).mono ?_; rintro e w4 ⟨rfl, rfl⟩)
 go_wp2_with fail
 refine onE hK (hHeld) (fun hHeld => ?_)
 clear hK K
 refine rdE (i := 8) rfl (fun K hK => ?_)
 go_simp
 refine onE hK (hHeld) (fun hHeld => ?_)
 clear hK K
 refine wpAnyH_done (by kernel_rfl) ?_ _
 have Hh := Lib.hid hHeld; clear hHeld
 have Hb1 := Lib.hid hb1; have Hb2 := Lib.hid hb2; clear hb1 hb2
 have HB : Hid (Below w.heap.size w (w2.alloc (.cells #[.int .i64 (checkLineup t.l0), .int .i64 (checkLineup t.l1)] 30))) := by
  have s1 := Hb1.out.size
  have s2 := Hb2.out.size
  simp only [World.size_alloc, World.size_drew] at s1
  have x1 : Below w.heap.size w (w.alloc (.cells A 54)).drew := ((Below.refl _ w).alloc (Nat.le_refl _) _).drew
  exact ((x1.trans (Hb1.out.mono (by simp))).trans (Hb2.out.mono (by omega))).alloc (by omega) _
 by_cases hE : firstE [checkLineup t.l0, checkLineup t.l1] = 0
 ·
  have hz : (firstE [checkLineup t.l0, checkLineup t.l1] != 0) = false := by simpa using hE
  have HE := Lib.hid hE; clear hE
  have hsl : ∀ W, (Instr.sliceAt 22 (.pointer (some ⟨w.heap.size, 0, none⟩)) none none none).run Tryz.prog W = .ok (.slice (some ⟨w.heap.size, 0, none⟩) 9 9) W := fun W =>
   run_slice_arr_all W 22 9 9 _ Tryz.underlying22 size9
  have Hn : Hid (t.l0.b.length = 9) := Ht0.out.1
  have Hrd : Hid (Rd _ _ _) := Rd.b0 (HA.out ▸ Hh.out) Ht.out
  have hbk2 := Hh.out
  rw [HA.out] at hbk2
  have hcl : ∀ s : Str, Calls Tryz.prog 111 (#[.string s] ++ #[.pointer (some ⟨w.heap.size, 0, none⟩)]) _ _ := fun s => teamsHas_any t Ht.out w.heap.size s _ hbk2
  have Hcl := Lib.hid hcl; clear hcl hbk2
  go_wp2_with (first
   | (go_at_call 110; refine (containsFuncS_any _ #[.pointer (some ⟨w.heap.size, 0, none⟩)] t.l0.b _ _ _ _ Hn.out (by omega) Hrd.out Hcl.out).mono ?_; rintro e w5 ⟨rfl, rfl⟩)
   | (go_at_call 68; refine (when_any _ _ _).mono ?_; rintro e w6 ⟨rfl, rfl⟩))
  go_ret
  exact ⟨ret_int (by unfold checkTeams; rw [if_neg (by rw [HE.out]; simp), both]), HB.out⟩
 ·
  have hz : (firstE [checkLineup t.l0, checkLineup t.l1] != 0) = true := by simpa using hE
  have HE := Lib.hid hE; clear hE
  go_wp2
  go_ret
  exact ⟨ret_int (by unfold checkTeams; rw [if_pos HE.out]), HB.out⟩
end Go.Proofs.YtmagppkclnebjaaGreatDoor

set_option linter.unusedSimpArgs false
namespace Go.Proofs.YtmagppkclnebjaaGreatDoor
open Go.RowKit
open L

theorem Tms.cell_b (t : Tms) (h : t.ok) (side : Int) (hs : side = 0 ∨ side = 1) (j : Nat) (hj : j < 9) : t.cells[side.toNat * 18 + j]? = some (.string ((t.get side).b.getD j .empty)) := by
 rcases hs with rfl | rfl
 ·
  simpa [Tms.get] using Tms.cell_b0 t h j hj
 ·
  simpa [Tms.get] using Tms.cell_b1 t h j hj
theorem Tms.cell_p (t : Tms) (h : t.ok) (side : Int) (hs : side = 0 ∨ side = 1) (j : Nat) (hj : j < 9) : t.cells[side.toNat * 18 + 9 + j]? = some (.int .i64 ((t.get side).p.getD j 0)) := by
 rcases hs with rfl | rfl
 ·
  simpa [Tms.get] using Tms.cell_p0 t h j hj
 ·
  simpa [Tms.get] using Tms.cell_p1 t h j hj

set_option maxHeartbeats 1000000 in
theorem player_any (t : Tms) (ht : t.ok) (g : Nat) (side slot : Int) (hs : side = 0 ∨ side = 1) (h1 : 1 ≤ slot) (h9 : slot ≤ 9) (w : World) (hb : Bk w g 54 t.cells.toArray) :
 Calls Tryz.prog 73 #[.pointer (some ⟨g, 0, none⟩), .int .i64 side, .int .i64 slot] w fun x w' => x = .returned (.tuple #[.string ((t.get side).bat slot), .int .i64 ((t.get side).at_ slot)]) ∧ ∃ n, w' = w.drewN n := by
 obtain ⟨k, hk, rfl⟩ : ∃ k : Nat, k < 9 ∧ slot = (k : Int) + 1 := ⟨(slot - 1).toNat, by omega, by omega⟩
 have e1 : (t.get side).bat ((k : Int) + 1) = (t.get side).b.getD k .empty := by unfold LU.bat; congr 1; omega
 have e2 : (t.get side).at_ ((k : Int) + 1) = (t.get side).p.getD k 0 := by unfold LU.at_; congr 1; omega
 rw [e1, e2]
 have c1 : w.cell? ⟨g, side.toNat * 18 + k, none⟩ = some (.string ((t.get side).b.getD k .empty)) := by rw [hb.cell, List.getElem?_toArray]; exact Tms.cell_b t ht side hs k hk
 have c2 : w.cell? ⟨g, side.toNat * 18 + 9 + k, none⟩ = some (.int .i64 ((t.get side).p.getD k 0)) := by rw [hb.cell, List.getElem?_toArray]; exact Tms.cell_p t ht side hs k hk
 generalize (t.get side).b.getD k .empty = n at *
 generalize (t.get side).p.getD k 0 = p at *
 have w1 : IntKind.i64.wrap ((k : Int) + 1 - 1) = (k : Int) := by rw [IntWalk.i64_in _ (by omega)]; omega
 have w2 : IntKind.i64.wrap (k : Int) = (k : Int) := IntWalk.i64_in _ (by omega)
 have k0 : (0 : Int) ≤ (k : Int) := by omega
 have k9 : (k : Int) < 9 := by omega
 clear hb e1 e2 h1 h9
 rcases hs with rfl | rfl
 all_goals
  simp only [Int.toNat_zero, Int.toNat_one, Nat.zero_mul, Nat.one_mul, Nat.zero_add, Nat.reduceAdd] at c1 c2
  go_enter Tryz.func73, Tryz.ntmps73
  go_wp2
  go_quiet (fail)
  go_wp2
  go_ret2
  exact ⟨rfl, _, rfl⟩

def L.Chg.val (c : Chg) : Array Value := #[.int .i64 c.side, .int .i64 c.play, .int .i64 c.slot, .string c.name, .int .i64 c.pos]
theorem LU.made_ok (l : LU) (h : l.ok) (slot : Int) (n : Str) (p : Int) : (l.made slot n p).ok := ⟨by simp [LU.made, h.1], by simp [LU.made, h.2]⟩
theorem Tms.made_ok (t : Tms) (h : t.ok) (c : Chg) : (t.made c).ok := by
 unfold Tms.made
 split
 ·
  exact ⟨LU.made_ok _ h.1 _ _ _, h.2⟩
 ·
  exact ⟨h.1, LU.made_ok _ h.2 _ _ _⟩
theorem set2 (X Y Z : List Value) (hX : X.length = 18) (hY : Y.length = 9) (k : Nat) (hk : k < 9) (u v : Value) : ((X ++ (Y ++ Z)).set (18 + k) u).set (18 + 9 + k) v = X ++ (Y.set k u ++ Z.set k v) := by
 have e1 : (X ++ (Y ++ Z)).set (18 + k) u = X ++ (Y.set k u ++ Z) := by
  rw [List.set_append_right _ _ (by omega), hX, show 18 + k - 18 = k by omega, List.set_append_left _ _ (by omega)]
 rw [e1, List.set_append_right _ _ (by omega), hX, show 18 + 9 + k - 18 = 9 + k by omega, List.set_append_right _ _ (by simp; omega)]
 simp [hY]
theorem Tms.made_cells (t : Tms) (h : t.ok) (c : Chg) (hs : c.side = 0 ∨ c.side = 1) (k : Nat) (hk : k < 9) (hc : c.slot = (k : Int) + 1) :
 (t.cells.toArray.setIfInBounds (c.side.toNat * 18 + k) (.string c.name)).setIfInBounds (c.side.toNat * 18 + 9 + k) (.int .i64 c.pos) = (t.made c).cells.toArray := by
 obtain ⟨⟨h1, h2⟩, h3, h4⟩ := h
 have e : (c.slot - 1).toNat = k := by omega
 simp only [List.setIfInBounds_toArray]
 congr 1
 rcases hs with hs | hs
 ·
  simp only [Tms.made, hs, if_true, Tms.cells, LU.cells, LU.made, e, Int.toNat_zero, Nat.zero_mul, Nat.zero_add, List.map_set]
  rw [List.set_append_left _ _ (by simp [h1, h2]; omega), List.set_append_left _ _ (by simp [h1]; omega), List.set_append_left _ _ (by simp [h1, h2]; omega), List.set_append_right _ _ (by simp [h1])]
  simp [h1]
 ·
  simp only [Tms.made, hs, Tms.cells, LU.cells, LU.made, e, Int.toNat_one, Nat.one_mul, List.map_set, Int.reduceEq, if_false]
  exact set2 _ _ _ (by simp [h1, h2]) (by simp [h3]) k hk _ _
end Go.Proofs.YtmagppkclnebjaaGreatDoor

set_option linter.unusedSimpArgs false
namespace Go.Proofs.YtmagppkclnebjaaGreatDoor
open Go.RowKit
open L

theorem only_alloc {a w : World} {row : Option Nat} (h : a.grownBy w row) (o : Obj) : a.grownBy (w.alloc o) row :=
 ⟨h.os, h.tape, h.output, Nat.le_trans h.size (by simp), fun i hi hne => (Below.heap_alloc w o i (Nat.lt_of_lt_of_le hi h.size)).trans (h.block i hi hne)⟩
theorem only_drew {a w : World} {row : Option Nat} (h : a.grownBy w row) : a.grownBy w.drew row := ⟨h.os, h.tape, h.output, h.size, h.block⟩
theorem only_set {a w : World} {g : Nat} (h : a.grownBy w (some g)) (o : Nat) (u : Value) : a.grownBy (w.setCell ⟨g, o, none⟩ u) (some g) :=
 ⟨h.os, h.tape, h.output, by simpa [World.setCell] using h.size, fun i hi hne => (Below.heap_setCell w ⟨g, o, none⟩ u i (by
  rintro rfl
  exact hne rfl)).trans (h.block i hi hne)⟩

set_option maxHeartbeats 1000000 in
theorem make_any (t : Tms) (ht : t.ok) (g : Nat) (c : Chg) (hs : c.side = 0 ∨ c.side = 1) (h1 : 1 ≤ c.slot) (h9 : c.slot ≤ 9) (w : World) (hb : Bk w g 54 t.cells.toArray) :
 Calls Tryz.prog 81 #[.pointer (some ⟨g, 0, none⟩), .agg c.val] w fun x w' => x = .returned (.tuple #[]) ∧ Bk w' g 54 (t.made c).cells.toArray ∧ w.grownBy w' (some g) := by
 obtain ⟨k, hk, hsl⟩ : ∃ k : Nat, k < 9 ∧ c.slot = (k : Int) + 1 := ⟨(c.slot - 1).toNat, by omega, by omega⟩
 have hfin := Tms.made_cells t ht c hs k hk hsl
 have c1 : w.cell? ⟨g, c.side.toNat * 18 + k, none⟩ = some (.string ((t.get c.side).b.getD k .empty)) := by rw [hb.cell, List.getElem?_toArray]; exact Tms.cell_b t ht c.side hs k hk
 have c2 : w.cell? ⟨g, c.side.toNat * 18 + 9 + k, none⟩ = some (.int .i64 ((t.get c.side).p.getD k 0)) := by rw [hb.cell, List.getElem?_toArray]; exact Tms.cell_p t ht c.side hs k hk
 have f1 : w.frozen? ⟨g, c.side.toNat * 18 + k, none⟩ = false := hb.frozen _
 have f2 : w.frozen? ⟨g, c.side.toNat * 18 + 9 + k, none⟩ = false := hb.frozen _
 have hg := hb.lt
 have hne : g ≠ w.heap.size := Nat.ne_of_lt hg
 generalize (t.get c.side).b.getD k .empty = n at *
 generalize (t.get c.side).p.getD k 0 = p at *
 have Hfin := Lib.hid hfin; clear hfin
 have Hb := Lib.hid hb; clear hb
 unfold L.Chg.val
 rw [hsl]
 have w1 : IntKind.i64.wrap ((k : Int) + 1 - 1) = (k : Int) := by rw [IntWalk.i64_in _ (by omega)]; omega
 have w2 : IntKind.i64.wrap (k : Int) = (k : Int) := IntWalk.i64_in _ (by omega)
 have k0 : (0 : Int) ≤ (k : Int) := by omega
 have k9 : (k : Int) < 9 := by omega
 clear h1 h9 hsl
 generalize c.side = sd at *
 rcases hs with rfl | rfl
 ·
  simp only [Int.toNat_zero, Int.toNat_one, Nat.zero_mul, Nat.one_mul, Nat.zero_add, Nat.reduceAdd] at c1 c2 f1 f2 Hfin
  have x0 : (w.alloc (.cells #[.int .i64 0, .int .i64 c.play, .int .i64 ((k : Int) + 1), .string c.name, .int .i64 c.pos] 142)).cell? ⟨w.heap.size, 0, none⟩ = some (.int .i64 0) := by rw [(Bk.new _ _ _).cell]; rfl
  have x2 : (w.alloc (.cells #[.int .i64 0, .int .i64 c.play, .int .i64 ((k : Int) + 1), .string c.name, .int .i64 c.pos] 142)).cell? ⟨w.heap.size, 2, none⟩ = some (.int .i64 ((k : Int) + 1)) := by rw [(Bk.new _ _ _).cell]; rfl
  have x3 : (w.alloc (.cells #[.int .i64 0, .int .i64 c.play, .int .i64 ((k : Int) + 1), .string c.name, .int .i64 c.pos] 142)).cell? ⟨w.heap.size, 3, none⟩ = some (.string c.name) := by rw [(Bk.new _ _ _).cell]; rfl
  have x4 : (w.alloc (.cells #[.int .i64 0, .int .i64 c.play, .int .i64 ((k : Int) + 1), .string c.name, .int .i64 c.pos] 142)).cell? ⟨w.heap.size, 4, none⟩ = some (.int .i64 c.pos) := by rw [(Bk.new _ _ _).cell]; rfl
  have y1 : (w.alloc (.cells #[.int .i64 0, .int .i64 c.play, .int .i64 ((k : Int) + 1), .string c.name, .int .i64 c.pos] 142)).cell? ⟨g, 0 + k, none⟩ = some (.string n) := by rw [World.cell?_alloc_lt _ _ _ hg]; simpa using c1
  have y2 : (w.alloc (.cells #[.int .i64 0, .int .i64 c.play, .int .i64 ((k : Int) + 1), .string c.name, .int .i64 c.pos] 142)).cell? ⟨g, 9 + k, none⟩ = some (.int .i64 p) := by rw [World.cell?_alloc_lt _ _ _ hg]; simpa using c2
  have z1 : (w.alloc (.cells #[.int .i64 0, .int .i64 c.play, .int .i64 ((k : Int) + 1), .string c.name, .int .i64 c.pos] 142)).frozen? ⟨g, 0 + k, none⟩ = false := by rw [World.frozen?_alloc_past _ _ _ hg]; simpa using f1
  have z2 : (w.alloc (.cells #[.int .i64 0, .int .i64 c.play, .int .i64 ((k : Int) + 1), .string c.name, .int .i64 c.pos] 142)).frozen? ⟨g, 9 + k, none⟩ = false := by rw [World.frozen?_alloc_past _ _ _ hg]; simpa using f2
  have Hb0 := Lib.hid (Hb.out.alloc (.cells #[.int .i64 0, .int .i64 c.play, .int .i64 ((k : Int) + 1), .string c.name, .int .i64 c.pos] 142))
  have Hg0 := Lib.hid (only_alloc (World.grownBy.refl w (some g)) (.cells #[.int .i64 0, .int .i64 c.play, .int .i64 ((k : Int) + 1), .string c.name, .int .i64 c.pos] 142))
  clear c1 c2 f1 f2
  go_enter Tryz.func81, Tryz.ntmps81
  go_wp2
  generalize w.alloc (.cells #[.int .i64 0, .int .i64 c.play, .int .i64 ((k : Int) + 1), .string c.name, .int .i64 c.pos] 142) = W0 at *
  generalize w.heap.size = bx at *
  try simp only [Nat.zero_add] at y1 y2 z1 z2
  go_region_held3 (fun W => W.cell? ⟨bx, 0, none⟩ = some (.int .i64 0) ∧ W.cell? ⟨bx, 2, none⟩ = some (.int .i64 ((k : Int) + 1)) ∧ W.cell? ⟨bx, 3, none⟩ = some (.string c.name) ∧ W.cell? ⟨bx, 4, none⟩ = some (.int .i64 c.pos)) (go_keep) (fail)
  go_end0
  refine ⟨rfl, ?_, only_drew (only_set (only_set Hg0.out _ _) _ _)⟩
  rw [← Hfin.out]
  first | exact ((Hb0.out.set_ _ _).set_ _ _).drew | (have := ((Hb0.out.set_ (0 + k) (.string c.name)).set_ (9 + k) (.int .i64 c.pos)).drew; simpa using this)
 ·
  simp only [Int.toNat_zero, Int.toNat_one, Nat.zero_mul, Nat.one_mul, Nat.zero_add, Nat.reduceAdd] at c1 c2 f1 f2 Hfin
  have x0 : (w.alloc (.cells #[.int .i64 1, .int .i64 c.play, .int .i64 ((k : Int) + 1), .string c.name, .int .i64 c.pos] 142)).cell? ⟨w.heap.size, 0, none⟩ = some (.int .i64 1) := by rw [(Bk.new _ _ _).cell]; rfl
  have x2 : (w.alloc (.cells #[.int .i64 1, .int .i64 c.play, .int .i64 ((k : Int) + 1), .string c.name, .int .i64 c.pos] 142)).cell? ⟨w.heap.size, 2, none⟩ = some (.int .i64 ((k : Int) + 1)) := by rw [(Bk.new _ _ _).cell]; rfl
  have x3 : (w.alloc (.cells #[.int .i64 1, .int .i64 c.play, .int .i64 ((k : Int) + 1), .string c.name, .int .i64 c.pos] 142)).cell? ⟨w.heap.size, 3, none⟩ = some (.string c.name) := by rw [(Bk.new _ _ _).cell]; rfl
  have x4 : (w.alloc (.cells #[.int .i64 1, .int .i64 c.play, .int .i64 ((k : Int) + 1), .string c.name, .int .i64 c.pos] 142)).cell? ⟨w.heap.size, 4, none⟩ = some (.int .i64 c.pos) := by rw [(Bk.new _ _ _).cell]; rfl
  have y1 : (w.alloc (.cells #[.int .i64 1, .int .i64 c.play, .int .i64 ((k : Int) + 1), .string c.name, .int .i64 c.pos] 142)).cell? ⟨g, 18 + k, none⟩ = some (.string n) := by rw [World.cell?_alloc_lt _ _ _ hg]; simpa using c1
  have y2 : (w.alloc (.cells #[.int .i64 1, .int .i64 c.play, .int .i64 ((k : Int) + 1), .string c.name, .int .i64 c.pos] 142)).cell? ⟨g, 27 + k, none⟩ = some (.int .i64 p) := by rw [World.cell?_alloc_lt _ _ _ hg]; simpa using c2
  have z1 : (w.alloc (.cells #[.int .i64 1, .int .i64 c.play, .int .i64 ((k : Int) + 1), .string c.name, .int .i64 c.pos] 142)).frozen? ⟨g, 18 + k, none⟩ = false := by rw [World.frozen?_alloc_past _ _ _ hg]; simpa using f1
  have z2 : (w.alloc (.cells #[.int .i64 1, .int .i64 c.play, .int .i64 ((k : Int) + 1), .string c.name, .int .i64 c.pos] 142)).frozen? ⟨g, 27 + k, none⟩ = false := by rw [World.frozen?_alloc_past _ _ _ hg]; simpa using f2
  have Hb0 := Lib.hid (Hb.out.alloc (.cells #[.int .i64 1, .int .i64 c.play, .int .i64 ((k : Int) + 1), .string c.name, .int .i64 c.pos] 142))
  have Hg0 := Lib.hid (only_alloc (World.grownBy.refl w (some g)) (.cells #[.int .i64 1, .int .i64 c.play, .int .i64 ((k : Int) + 1), .string c.name, .int .i64 c.pos] 142))
  clear c1 c2 f1 f2
  go_enter Tryz.func81, Tryz.ntmps81
  go_wp2
  generalize w.alloc (.cells #[.int .i64 1, .int .i64 c.play, .int .i64 ((k : Int) + 1), .string c.name, .int .i64 c.pos] 142) = W0 at *
  generalize w.heap.size = bx at *
  try simp only [Nat.zero_add] at y1 y2 z1 z2
  go_region_held3 (fun W => W.cell? ⟨bx, 0, none⟩ = some (.int .i64 1) ∧ W.cell? ⟨bx, 2, none⟩ = some (.int .i64 ((k : Int) + 1)) ∧ W.cell? ⟨bx, 3, none⟩ = some (.string c.name) ∧ W.cell? ⟨bx, 4, none⟩ = some (.int .i64 c.pos)) (go_keep) (fail)
  go_end0
  refine ⟨rfl, ?_, only_drew (only_set (only_set Hg0.out _ _) _ _)⟩
  rw [← Hfin.out]
  first | exact ((Hb0.out.set_ _ _).set_ _ _).drew | (have := ((Hb0.out.set_ (0 + k) (.string c.name)).set_ (9 + k) (.int .i64 c.pos)).drew; simpa using this)
end Go.Proofs.YtmagppkclnebjaaGreatDoor

set_option linter.unusedSimpArgs false
namespace Go.Proofs.YtmagppkclnebjaaGreatDoor
open Go.RowKit
open L

theorem bt_trans {a b c : World} (h1 : Below a.heap.size a b) (h2 : Below b.heap.size b c) : Below a.heap.size a c := h1.trans (h2.mono h1.size)
theorem bt_alloc {a b : World} (h : Below a.heap.size a b) (o : Obj) : Below a.heap.size a (b.alloc o) := h.alloc h.size o
theorem bt_drew {a b : World} (h : Below a.heap.size a b) : Below a.heap.size a b.drew := h.drew
theorem bt_drewN {a b : World} (h : Below a.heap.size a b) (n : Nat) : Below a.heap.size a (b.drewN n) := ⟨h.os, h.tape, h.output, h.size, h.block⟩
theorem bt_new (a : World) (o : Obj) : Below a.heap.size a (a.alloc o) := (Below.refl _ a).alloc (Nat.le_refl _) o

set_option maxHeartbeats 1000000 in
theorem checkC_any (c : Chg) (w : World) :
 Calls Tryz.prog 118 #[.agg c.val] w fun x w' => x = .returned (.int .i64 (checkC c)) ∧ Below w.heap.size w w' := by
 have x0 : (w.alloc (.cells c.val 142)).cell? ⟨w.heap.size, 0, none⟩ = some (.int .i64 c.side) := by rw [(Bk.new _ _ _).cell]; rfl
 have x1 : (w.alloc (.cells c.val 142)).cell? ⟨w.heap.size, 1, none⟩ = some (.int .i64 c.play) := by rw [(Bk.new _ _ _).cell]; rfl
 have x2 : (w.alloc (.cells c.val 142)).cell? ⟨w.heap.size, 2, none⟩ = some (.int .i64 c.slot) := by rw [(Bk.new _ _ _).cell]; rfl
 have x3 : (w.alloc (.cells c.val 142)).cell? ⟨w.heap.size, 3, none⟩ = some (.string c.name) := by rw [(Bk.new _ _ _).cell]; rfl
 have x4 : (w.alloc (.cells c.val 142)).cell? ⟨w.heap.size, 4, none⟩ = some (.int .i64 c.pos) := by rw [(Bk.new _ _ _).cell]; rfl
 have hbx : w.heap.size < (w.alloc (.cells c.val 142)).heap.size := by simp
 have HB := Lib.hid (bt_new w (.cells c.val 142))
 generalize hv : c.val = V at *
 clear hv
 go_enter Tryz.func118, Tryz.ntmps118
 go_wp2
 generalize w.alloc (.cells V 142) = W0 at *
 generalize hx : w.heap.size = bx at x0 x1 x2 x3 x4 hbx ⊢
 have HX := Lib.hid hx; clear hx
 go_region_held3 (fun W => W.cell? ⟨bx, 0, none⟩ = some (.int .i64 c.side) ∧ W.cell? ⟨bx, 1, none⟩ = some (.int .i64 c.play) ∧ W.cell? ⟨bx, 2, none⟩ = some (.int .i64 c.slot) ∧ W.cell? ⟨bx, 3, none⟩ = some (.string c.name) ∧ W.cell? ⟨bx, 4, none⟩ = some (.int .i64 c.pos))
  (first | go_keep | (exact ⟨(k1 _ _ hbx).trans x0, (k1 _ _ hbx).trans x1, (k1 _ _ hbx).trans x2, (k1 _ _ hbx).trans x3, (k1 _ _ hbx).trans x4⟩))
  (first
   | (go_at_call 94; refine (sided_any _ _).mono ?_; rintro e w' ⟨rfl, rfl⟩)
   | (go_at_call 90; refine (indexed_any _ _).mono ?_; rintro e w' ⟨rfl, rfl⟩)
   | (go_at_call 95; refine (ninth_any _ _).mono ?_; rintro e w' ⟨rfl, rfl⟩)
   | (go_at_call 104; refine (named_any _ _).mono ?_; rintro e w1 ⟨rfl, hb1⟩; have k1 := bcell hb1)
   | (go_at_call 89; refine (first5 _ _ _ _ _ _ _ _ _ (by exact heap_alloc_new _ _)).mono ?_; rintro e w' ⟨rfl, rfl⟩))
 have Hb1 := Lib.hid hb1; clear hb1 k1
 go_wp2
 go_ret
 rw [← HX.out]
 exact ⟨rfl, bt_alloc (bt_trans (bt_drew HB.out) Hb1.out) _⟩

def orI : List Int → Int
 | [] => 0
 | e :: l => if e = 0 then orI l else e
set_option maxHeartbeats 400000 in
theorem or_any (xs : List Int) (A : Option Addr) (n c : Nat) (w : World) (hn : xs.length = n) (hle : n ≤ 100) (h : Rd w A (xs.map (.int .i64))) :
 Calls Tryz.prog 141 #[.slice A n c] w fun x w' => x = .returned (.int .i64 (orI xs)) ∧ w = w' := by
 have Hn := Lib.hid hn; clear hn
 have Hr := Lib.hid h; clear h
 go_enter Tryz.func141, Tryz.ntmps141
 go_wp2
 go_loop [8] (fun i => ∃ k : Nat, k ≤ n ∧ i = .int .i64 k ∧ orI xs = orI (xs.drop k)) (fun i => n - (intOf i).toNat)
 case atStart => exact ⟨0, Nat.zero_le _, rfl, rfl⟩
 case round =>
  obtain ⟨k, hk, rfl, hj⟩ := hrel
  have H := Lib.hid hj; clear hj
  by_cases hlt : k < n
  ·
   obtain ⟨b, off, rfl, hc1⟩ := Hr.out.int (k := k) (by rw [Hn.out]; exact hlt)
   generalize he : xs.getD k 0 = e at hc1
   have He := Lib.hid he; clear he
   have hd : xs.drop k = e :: xs.drop (k + 1) := by
    rw [List.drop_eq_getElem_cons (by have := Hn.out; omega), ← He.out]
    simp [List.getD, List.getElem?_eq_getElem (show k < xs.length by have := Hn.out; omega)]
   have Hd := Lib.hid hd; clear hd
   by_cases h0 : e = 0
   ·
    subst h0
    go_wp2
    go_round
    case rel => exact ⟨k + 1, by omega, by go_num, by rw [H.out, Hd.out]; simp [orI]⟩
    case measure => simp [intOf]; omega
   ·
    have h1 : (e != 0) = true := by simpa using h0
    go_wp2
    go_ret
    exact ⟨ret_int (by rw [H.out, Hd.out]; simp [orI, h0]), rfl⟩
  ·
   go_wp2
   go_ret
   exact ⟨ret_int (by rw [H.out, List.drop_of_length_le (by have := Hn.out; omega)]; rfl), rfl⟩
theorem or3 (e1 e2 e3 : Int) (b : Nat) (t : TypeId) (fr : Nat × Nat) (W : World) (hb : W.heap[b]? = some (.cells #[.int .i64 e1, .int .i64 e2, .int .i64 e3] t fr)) :
 Calls Tryz.prog 141 #[.slice (some ⟨b, 0, none⟩) 3 3] W fun x w' => x = .returned (.int .i64 (orI [e1, e2, e3])) ∧ W = w' :=
 or_any _ _ 3 3 W rfl (by omega) (Rd.of_block hb)

def cmpC (a b : Chg) : Int := orI [cmpI a.play b.play, cmpI a.side b.side, cmpI a.slot b.slot]
set_option maxHeartbeats 1000000 in
theorem compareC_any (c d : Chg) (w : World) :
 Calls Tryz.prog 119 #[.agg c.val, .agg d.val] w fun x w' => x = .returned (.int .i64 (cmpC c d)) ∧ Below w.heap.size w w' := by
 have hk1 := (Bk.new w 142 c.val).alloc (.cells d.val 142)
 have hk2 := Bk.new (w.alloc (.cells c.val 142)) 142 d.val
 rw [World.size_alloc] at hk2
 have x0 : ((w.alloc (.cells c.val 142)).alloc (.cells d.val 142)).cell? ⟨w.heap.size, 0, none⟩ = some (.int .i64 c.side) := by rw [hk1.cell]; rfl
 have x1 : ((w.alloc (.cells c.val 142)).alloc (.cells d.val 142)).cell? ⟨w.heap.size, 1, none⟩ = some (.int .i64 c.play) := by rw [hk1.cell]; rfl
 have x2 : ((w.alloc (.cells c.val 142)).alloc (.cells d.val 142)).cell? ⟨w.heap.size, 2, none⟩ = some (.int .i64 c.slot) := by rw [hk1.cell]; rfl
 have y0 : ((w.alloc (.cells c.val 142)).alloc (.cells d.val 142)).cell? ⟨w.heap.size + 1, 0, none⟩ = some (.int .i64 d.side) := by rw [hk2.cell]; rfl
 have y1 : ((w.alloc (.cells c.val 142)).alloc (.cells d.val 142)).cell? ⟨w.heap.size + 1, 1, none⟩ = some (.int .i64 d.play) := by rw [hk2.cell]; rfl
 have y2 : ((w.alloc (.cells c.val 142)).alloc (.cells d.val 142)).cell? ⟨w.heap.size + 1, 2, none⟩ = some (.int .i64 d.slot) := by rw [hk2.cell]; rfl
 have HB := Lib.hid (bt_alloc (bt_new w (.cells c.val 142)) (.cells d.val 142))
 clear hk1 hk2
 generalize hv : c.val = V at *
 generalize hu : d.val = U at *
 clear hv hu
 go_enter Tryz.func119, Tryz.ntmps119
 go_wp2
 generalize (w.alloc (.cells V 142)).alloc (.cells U 142) = W0 at *
 generalize hx : w.heap.size = bx at x0 x1 x2 y0 y1 y2 ⊢
 have HX := Lib.hid hx; clear hx
 go_region_held3 (fun W => W.cell? ⟨bx, 0, none⟩ = some (.int .i64 c.side) ∧ W.cell? ⟨bx, 1, none⟩ = some (.int .i64 c.play) ∧ W.cell? ⟨bx, 2, none⟩ = some (.int .i64 c.slot) ∧ W.cell? ⟨bx + 1, 0, none⟩ = some (.int .i64 d.side) ∧ W.cell? ⟨bx + 1, 1, none⟩ = some (.int .i64 d.play) ∧ W.cell? ⟨bx + 1, 2, none⟩ = some (.int .i64 d.slot))
  (go_keep)
  (first
   | (go_at_call 103; refine (compare_any _ _ _).mono ?_; rintro e w' ⟨rfl, rfl⟩)
   | (go_at_call 141; refine (or3 _ _ _ _ _ _ _ (by exact heap_alloc_new _ _)).mono ?_; rintro e w' ⟨rfl, rfl⟩))
 go_wp2
 go_ret
 rw [← HX.out]
 exact ⟨rfl, bt_drew (bt_alloc HB.out _)⟩
/-- the order of changes, as the program asks it and as the reference does -/
theorem cmpC_after (a b : Chg) : decide (cmpC a b ≤ 0) = !after a b := by
 unfold cmpC orI orI orI orI cmpI after
 by_cases h1 : a.play = b.play
 ·
  by_cases h2 : a.side = b.side
  ·
   by_cases h3 : a.slot = b.slot
   ·
    simp [h1, h2, h3]
   ·
    rcases Int.lt_or_gt_of_ne h3 with h | h
    ·
     simp [h1, h2, h, h3]; omega
    ·
     have : ¬ a.slot < b.slot := by omega
     simp [h1, h2, h, this]
  ·
   rcases Int.lt_or_gt_of_ne h2 with h | h
   ·
    simp [h1, h2, h]; omega
   ·
    have : ¬ a.side < b.side := by omega
    simp [h1, h2, h, this]
 ·
  rcases Int.lt_or_gt_of_ne h1 with h | h
  ·
   simp [h1, h]; omega
  ·
   have : ¬ a.play < b.play := by omega
   simp [h1, h, this]
end Go.Proofs.YtmagppkclnebjaaGreatDoor

set_option linter.unusedSimpArgs false
namespace Go.Proofs.YtmagppkclnebjaaGreatDoor
open Go.RowKit
open L

section
variable {P : Program}
theorem eqItems_all (w : World) (d : Nat) (e : TypeId) (n : Nat) (xs ys : Array Value) (X Y : Nat → Value) (b : Nat → Bool) : ∀ (is : List Nat),
 (∀ i ∈ is, (part e xs (i * n)).run P w = .ok (X i) w ∧ (part e ys (i * n)).run P w = .ok (Y i) w ∧ (Op.equalIn d e (X i) (Y i)).run P w = .ok (b i) w) →
 (Op.eqItems d e n xs ys is).run P w = .ok (is.all b) w
 | [], _ => by simp [Op.eqItems]
 | i :: is, h => by
  obtain ⟨h1, h2, h3⟩ := h i (by simp)
  have ih := eqItems_all w d e n xs ys X Y b is (fun j hj => h j (by simp [hj]))
  simp only [Op.eqItems, Sem.run_bind, h1, h2, h3, Result.andThen_ok, List.all_cons]
  cases b i
  ·
   simp
  ·
   simpa using ih
theorem all_range_getD {α : Type} [DecidableEq α] (xs ys : List α) (d : α) (h : xs.length = ys.length) : (List.range xs.length).all (fun i => decide (xs.getD i d = ys.getD i d)) = decide (xs = ys) := by
 rw [Bool.eq_iff_iff]
 simp only [List.all_eq_true, List.mem_range, decide_eq_true_eq]
 constructor
 ·
  intro hh
  apply List.ext_getElem h
  intro i h1 h2
  have := hh i h1
  simpa [List.getD, List.getElem?_eq_getElem h1, List.getElem?_eq_getElem h2] using this
 ·
  rintro rfl i _; rfl
theorem eqArrS (w : World) (d : Nat) (t e : TypeId) (n : Nat) (i : TypeInfo) (hu : P.underlying t = some (.array n e)) (he : P.underlying e = some .string) (hi : P.info? e = some i) (hc : P.cellsOf e = 1)
 (xs ys : List Str) (hx : xs.length = n) (hy : ys.length = n) : (Op.equalIn (d + 2) t (.agg (xs.map Value.string).toArray) (.agg (ys.map Value.string).toArray)).run P w = .ok (decide (xs = ys)) w := by
 rw [run_equalIn_array w (d + 1) _ _ hu hi, hc, ← all_range_getD xs ys .empty (hx.trans hy.symm), hx]
 refine eqItems_all w (d + 1) e 1 _ _ (fun j => .string (xs.getD j .empty)) (fun j => .string (ys.getD j .empty)) _ _ (fun j hj => ?_)
 have hj' : j < n := by simpa using hj
 refine ⟨?_, ?_, ?_⟩
 ·
  simp [part, isAgg, run_underlying he, List.getD, List.getElem?_eq_getElem (show j < xs.length by omega)]
 ·
  simp [part, isAgg, run_underlying he, List.getD, List.getElem?_eq_getElem (show j < ys.length by omega)]
 ·
  rw [run_equalIn_string w d e _ _ he, tl_beq]
theorem eqArrI (w : World) (d : Nat) (t e : TypeId) (n : Nat) (i : TypeInfo) (hu : P.underlying t = some (.array n e)) (he : P.underlying e = some (.int .i64)) (hi : P.info? e = some i) (hc : P.cellsOf e = 1)
 (xs ys : List Int) (hx : xs.length = n) (hy : ys.length = n) : (Op.equalIn (d + 2) t (.agg (xs.map (Value.int .i64)).toArray) (.agg (ys.map (Value.int .i64)).toArray)).run P w = .ok (decide (xs = ys)) w := by
 rw [run_equalIn_array w (d + 1) _ _ hu hi, hc, ← all_range_getD xs ys 0 (hx.trans hy.symm), hx]
 refine eqItems_all w (d + 1) e 1 _ _ (fun j => .int .i64 (xs.getD j 0)) (fun j => .int .i64 (ys.getD j 0)) _ _ (fun j hj => ?_)
 have hj' : j < n := by simpa using hj
 refine ⟨?_, ?_, ?_⟩
 ·
  simp [part, isAgg, run_underlying he, List.getD, List.getElem?_eq_getElem (show j < xs.length by omega)]
 ·
  simp [part, isAgg, run_underlying he, List.getD, List.getElem?_eq_getElem (show j < ys.length by omega)]
 ·
  rw [run_equalIn_int w d e .i64 .i64 _ _ he]
  congr 1
end

theorem info9 : ∃ i, Tryz.prog.info? 9 = some i := Option.isSome_iff_exists.1 (by kernel_rfl)
theorem info3 : ∃ i, Tryz.prog.info? 3 = some i := Option.isSome_iff_exists.1 (by kernel_rfl)
theorem cells9 : Tryz.prog.cellsOf 9 = 1 := by kernel_rfl
theorem cells3 : Tryz.prog.cellsOf 3 = 1 := by kernel_rfl
theorem eq22 (w : World) (d : Nat) (xs ys : List Str) (hx : xs.length = 9) (hy : ys.length = 9) : (Op.equalIn (d + 2) 22 (.agg (xs.map Value.string).toArray) (.agg (ys.map Value.string).toArray)).run Tryz.prog w = .ok (decide (xs = ys)) w := by
 obtain ⟨i, hi⟩ := info9
 exact eqArrS w d 22 9 9 i Tryz.underlying22 Tryz.underlying9 hi cells9 xs ys hx hy
theorem eq23 (w : World) (d : Nat) (xs ys : List Int) (hx : xs.length = 9) (hy : ys.length = 9) : (Op.equalIn (d + 2) 23 (.agg (xs.map (Value.int .i64)).toArray) (.agg (ys.map (Value.int .i64)).toArray)).run Tryz.prog w = .ok (decide (xs = ys)) w := by
 obtain ⟨i, hi⟩ := info3
 exact eqArrI w d 23 3 9 i Tryz.underlying23 Tryz.underlying3 hi cells3 xs ys hx hy
theorem agg22 (w : World) : (isAgg 22).run Tryz.prog w = .ok true w := by kernel_rfl
theorem agg23 (w : World) : (isAgg 23).run Tryz.prog w = .ok true w := by kernel_rfl
theorem size22 (w : World) : (sizeOf 22).run Tryz.prog w = .ok 9 w := by kernel_rfl
theorem size23 (w : World) : (sizeOf 23).run Tryz.prog w = .ok 9 w := by kernel_rfl
theorem part_row (w : World) (t : TypeId) (n : Nat) (xs : List Value) (o : Nat) (h1 : (isAgg t).run Tryz.prog w = .ok true w) (h2 : (sizeOf t).run Tryz.prog w = .ok n w) :
 (part t xs.toArray o).run Tryz.prog w = .ok (.agg ((xs.drop o).take n).toArray) w := by
 simp [part, h1, h2]
theorem LU.drop0 (l : LU) (h : l.ok) : (l.cells.drop 0).take 9 = l.b.map Value.string := by
 simp only [LU.cells, List.drop_zero]
 rw [List.take_left' (by simp [h.1])]
theorem LU.drop9 (l : LU) (h : l.ok) : (l.cells.drop 9).take 9 = l.p.map (Value.int .i64) := by
 simp only [LU.cells]
 rw [List.drop_left' (by simp [h.1]), List.take_of_length_le (by simp [h.2])]
def fsLU : Array Field := #[{ name := "Batters", type := 22, offset := 0, embedded := false, tag := "", pkgPath := "", byteOffset := 0 }, { name := "Positions", type := 23, offset := 9, embedded := false, tag := "", pkgPath := "", byteOffset := 144 }]
/-- '==' at lineups, of either package -/
theorem eqLU (t : TypeId) (ht : Tryz.prog.underlying t = some (.struct (Tryz.prog.fieldsOf t))) (hp : Tryz.prog.stoodInHeld t = false) (hf : Tryz.prog.fieldsOf t = fsLU)
 (w : World) (d : Nat) (l m : LU) (hl : l.ok) (hm : m.ok) : (Op.equalIn (d + 3) t (.agg l.cells.toArray) (.agg m.cells.toArray)).run Tryz.prog w = .ok (decide (l = m)) w := by
 rw [run_equalIn_agg w (d + 2) t _ _ ht hp, hf]
 have n1 : ("Batters" ≠ "_") = True := by simp
 have n2 : ("Positions" ≠ "_") = True := by simp
 have q1 := fun (o : Nat) (xs : List Value) => part_row w 22 9 xs o (agg22 w) (size22 w)
 have q2 := fun (o : Nat) (xs : List Value) => part_row w 23 9 xs o (agg23 w) (size23 w)
 have q3 := eq22 w d _ _ hl.1 hm.1
 have q4 := eq23 w d _ _ hl.2 hm.2
 have e : (l = m) = (l.b = m.b ∧ l.p = m.p) := by cases l; cases m; simp
 simp only [fsLU, Op.eqFields, n1, n2, if_true, Sem.run_bind, q1, Result.andThen_ok, LU.drop0 l hl, LU.drop0 m hm, q3]
 by_cases h1 : l.b = m.b
 ·
  simp only [h1, decide_true, Bool.not_true, Bool.false_eq_true, if_false, Sem.run_bind, q2, Result.andThen_ok, LU.drop9 l hl, LU.drop9 m hm, q4]
  by_cases h2 : l.p = m.p
  ·
   simp [e, h1, h2]
  ·
   simp [e, h1, h2]
 ·
  simp [e, h1]
theorem fields33 : Tryz.prog.fieldsOf 33 = fsLU := by kernel_rfl
theorem fields25 : Tryz.prog.fieldsOf 25 = fsLU := by kernel_rfl
theorem str33 : Tryz.prog.underlying 33 = some (.struct (Tryz.prog.fieldsOf 33)) := by kernel_rfl
theorem str25 : Tryz.prog.underlying 25 = some (.struct (Tryz.prog.fieldsOf 25)) := by kernel_rfl
theorem agg33 (w : World) : (isAgg 33).run Tryz.prog w = .ok true w := by kernel_rfl
theorem agg25 (w : World) : (isAgg 25).run Tryz.prog w = .ok true w := by kernel_rfl
theorem size33 (w : World) : (sizeOf 33).run Tryz.prog w = .ok 18 w := by kernel_rfl
theorem size25 (w : World) : (sizeOf 25).run Tryz.prog w = .ok 18 w := by kernel_rfl
theorem Tms.drop0 (t : Tms) (h : t.ok) : (t.cells.drop 0).take 18 = t.l0.cells := by
 simp only [Tms.cells, List.drop_zero]
 rw [List.take_left' (LU.cells_len _ h.1)]
theorem Tms.drop18 (t : Tms) (h : t.ok) : (t.cells.drop 18).take 18 = t.l1.cells := by
 simp only [Tms.cells]
 rw [List.drop_left' (LU.cells_len _ h.1), List.take_of_length_le (by rw [LU.cells_len _ h.2]; exact Nat.le_refl _)]
theorem eqTms (t e : TypeId) (i : TypeInfo) (hu : Tryz.prog.underlying t = some (.array 2 e)) (hi : Tryz.prog.info? e = some i) (hc : Tryz.prog.cellsOf e = 18) (h1 : ∀ w, (isAgg e).run Tryz.prog w = .ok true w) (h2 : ∀ w, (sizeOf e).run Tryz.prog w = .ok 18 w)
 (he : ∀ (w : World) (d : Nat) (l m : LU), l.ok → m.ok → (Op.equalIn (d + 3) e (.agg l.cells.toArray) (.agg m.cells.toArray)).run Tryz.prog w = .ok (decide (l = m)) w)
 (w : World) (d : Nat) (x y : Tms) (hx : x.ok) (hy : y.ok) : (Op.equalIn (d + 4) t (.agg x.cells.toArray) (.agg y.cells.toArray)).run Tryz.prog w = .ok (decide (x = y)) w := by
 rw [run_equalIn_array w (d + 3) _ _ hu hi, hc]
 have := eqItems_all (P := Tryz.prog) w (d + 3) e 18 x.cells.toArray y.cells.toArray (fun j => .agg (x.get j).cells.toArray) (fun j => .agg (y.get j).cells.toArray) (fun j => decide (x.get j = y.get j)) (List.range 2) (fun j hj => by
  have hj' : j = 0 ∨ j = 1 := by simp at hj; omega
  rcases hj' with rfl | rfl
  ·
   refine ⟨?_, ?_, ?_⟩
   ·
    rw [part_row w e 18 _ _ (h1 w) (h2 w), Nat.zero_mul, Tms.drop0 x hx]; rfl
   ·
    rw [part_row w e 18 _ _ (h1 w) (h2 w), Nat.zero_mul, Tms.drop0 y hy]; rfl
   ·
    exact he w d _ _ hx.1 hy.1
  ·
   refine ⟨?_, ?_, ?_⟩
   ·
    rw [part_row w e 18 _ _ (h1 w) (h2 w), Nat.one_mul, Tms.drop18 x hx]; rfl
   ·
    rw [part_row w e 18 _ _ (h1 w) (h2 w), Nat.one_mul, Tms.drop18 y hy]; rfl
   ·
    exact he w d _ _ hx.2 hy.2)
 have hb : (List.range 2).all (fun j => decide (x.get j = y.get j)) = decide (x = y) := by
  clear this
  obtain ⟨a, b⟩ := x
  obtain ⟨a', b'⟩ := y
  rw [Bool.eq_iff_iff]
  simp [List.range_succ, Tms.get]
 rw [this, hb]
theorem info33' : ∃ i, Tryz.prog.info? 33 = some i := Option.isSome_iff_exists.1 (by kernel_rfl)
theorem info25' : ∃ i, Tryz.prog.info? 25 = some i := Option.isSome_iff_exists.1 (by kernel_rfl)
theorem cells33 : Tryz.prog.cellsOf 33 = 18 := by kernel_rfl
theorem cells25 : Tryz.prog.cellsOf 25 = 18 := by kernel_rfl
theorem eq33 (w : World) (d : Nat) (l m : LU) (hl : l.ok) (hm : m.ok) : (Op.equalIn (d + 3) 33 (.agg l.cells.toArray) (.agg m.cells.toArray)).run Tryz.prog w = .ok (decide (l = m)) w := eqLU 33 str33 Tryz.stoodInHeld33 fields33 w d l m hl hm
theorem eq25 (w : World) (d : Nat) (l m : LU) (hl : l.ok) (hm : m.ok) : (Op.equalIn (d + 3) 25 (.agg l.cells.toArray) (.agg m.cells.toArray)).run Tryz.prog w = .ok (decide (l = m)) w := eqLU 25 str25 Tryz.stoodInHeld25 fields25 w d l m hl hm
theorem eq54 (w : World) (d : Nat) (x y : Tms) (hx : x.ok) (hy : y.ok) : (Op.equalIn (d + 4) 54 (.agg x.cells.toArray) (.agg y.cells.toArray)).run Tryz.prog w = .ok (decide (x = y)) w := by
 obtain ⟨i, hi⟩ := info33'
 exact eqTms 54 33 i Tryz.underlying54 hi cells33 agg33 size33 eq33 w d x y hx hy
theorem eq46 (w : World) (d : Nat) (x y : Tms) (hx : x.ok) (hy : y.ok) : (Op.equalIn (d + 4) 46 (.agg x.cells.toArray) (.agg y.cells.toArray)).run Tryz.prog w = .ok (decide (x = y)) w := by
 obtain ⟨i, hi⟩ := info25'
 exact eqTms 46 25 i Tryz.underlying46 hi cells25 agg25 size25 eq25 w d x y hx hy
/-- the operations, as a walk meets them -/
theorem op_eql33 (w : World) (l m : LU) (hl : l.ok) (hm : m.ok) : (binOp .eql 33 (.agg l.cells.toArray) (.agg m.cells.toArray)).run Tryz.prog w = .ok (.bool (decide (l = m))) w := by
 rw [run_eql_struct, eq33 w 9997 l m hl hm]; rfl
theorem op_neq54 (w : World) (x y : Tms) (hx : x.ok) (hy : y.ok) : (binOp .neq 54 (.agg x.cells.toArray) (.agg y.cells.toArray)).run Tryz.prog w = .ok (.bool (!decide (x = y))) w := by
 rw [run_neq_struct, eq54 w 9996 x y hx hy]; rfl
theorem op_eql54 (w : World) (x y : Tms) (hx : x.ok) (hy : y.ok) : (binOp .eql 54 (.agg x.cells.toArray) (.agg y.cells.toArray)).run Tryz.prog w = .ok (.bool (decide (x = y))) w := by
 rw [run_eql_struct, eq54 w 9996 x y hx hy]; rfl
theorem op_neq46 (w : World) (x y : Tms) (hx : x.ok) (hy : y.ok) : (binOp .neq 46 (.agg x.cells.toArray) (.agg y.cells.toArray)).run Tryz.prog w = .ok (.bool (!decide (x = y))) w := by
 rw [run_neq_struct, eq46 w 9996 x y hx hy]; rfl
theorem op_eql46 (w : World) (x y : Tms) (hx : x.ok) (hy : y.ok) : (binOp .eql 46 (.agg x.cells.toArray) (.agg y.cells.toArray)).run Tryz.prog w = .ok (.bool (decide (x = y))) w := by
 rw [run_eql_struct, eq46 w 9996 x y hx hy]; rfl
theorem op_eql23 (w : World) (xs ys : List Int) (hx : xs.length = 9) (hy : ys.length = 9) : (binOp .eql 23 (.agg (xs.map (Value.int .i64)).toArray) (.agg (ys.map (Value.int .i64)).toArray)).run Tryz.prog w = .ok (.bool (decide (xs = ys))) w := by
 rw [run_eql_struct, eq23 w 9998 xs ys hx hy]; rfl
end Go.Proofs.YtmagppkclnebjaaGreatDoor

set_option linter.unusedSimpArgs false
namespace Go.Proofs.YtmagppkclnebjaaGreatDoor
open Go.RowKit
open Go.Maps
open L

theorem plainElem_bool_inv {P : Program} {e : TypeId} (he : P.underlying e = some .bool) {v : Value} {z : DataW Unit × List MemPlace} (h : plainElem P e v = some z) : ∃ x, v = .bool x ∧ z = (.lit (.bool x), []) := by
 unfold plainElem at h
 rw [he] at h
 cases v <;> simp at h
 exact ⟨_, rfl, h.symm⟩
def Seen (w : World) (m : Nat) (known : List Str) : Prop :=
 ∃ (n : Nat) (D : DataW Unit), n ≤ known.length ∧ w.ownsMap Tryz.prog 9 (plainElem Tryz.prog 4) m n D ∧ IsMap D ∧
  ∀ s : Str, D.atKey (.string s.data.toList) (.lit (.bool false)) = .lit (.bool (decide (s ∈ known)))
theorem key9 : Keyed Tryz.prog 9 := string_keyed Tryz.underlying9
theorem zero4 (w : World) : (zeroValue 4).run Tryz.prog w = .ok (.bool false) w := by kernel_rfl
theorem Seen.made (w : World) : Seen (w.alloc (.map #[] 0)) w.heap.size [] :=
 ⟨0, .map [], Nat.le_refl _, World.ownsMap_made _ _ _ _, isMap_empty, fun s => by simp [DataW.atKey]⟩
section
variable {w w' : World} {m : Nat} {known : List Str}
theorem Seen.lt (h : Seen w m known) : m < w.heap.size := by obtain ⟨n, D, _, h, _⟩ := h; exact h.lt
theorem Seen.kept {row : Option Nat} (h : Seen w m known) (hg : w.grownBy w' row) (hne : some m ≠ row) : Seen w' m known := by
 obtain ⟨n, D, h1, h2, h3⟩ := h
 exact ⟨n, D, h1, h2.kept hg hne, h3⟩
theorem Seen.alloc (h : Seen w m known) (o : Obj) : Seen (w.alloc o) m known := by
 obtain ⟨n, D, h1, h2, h3⟩ := h
 exact ⟨n, D, h1, h2.alloc o, h3⟩
theorem Seen.drew (h : Seen w m known) : Seen w.drew m known := h
theorem Seen.drewN (h : Seen w m known) (n : Nat) : Seen (w.drewN n) m known := h
theorem Seen.below {B : Nat} (h : Seen w m known) (hb : Below B w w') (hm : m < B) : Seen w' m known := by
 obtain ⟨n, D, h1, ⟨es, clock, hb', F, hs, hD⟩, h3⟩ := h
 exact ⟨n, D, h1, ⟨es, clock, (hb.block m hm).trans hb', F, hs, hD⟩, h3⟩
theorem Seen.look (h : Seen w m known) (s : Str) (hs : s.size ≤ maxLen) : (Instr.lookup 181 (.map (some m)) (.string s) false).run Tryz.prog w = .ok (.bool (decide (s ∈ known))) w := by
 obtain ⟨n, D, _, h2, _, h4⟩ := h
 obtain ⟨v, ps, hrun, hv⟩ := h2.lookup key9 Tryz.underlying181 (zero4 w) (plainElem_bool Tryz.underlying4 false) (WideMaps.keyOf_string_mk Tryz.underlying9 hs)
 rw [h4 s] at hv
 obtain ⟨x, rfl, hx⟩ := plainElem_bool_inv Tryz.underlying4 hv
 simp only [Prod.mk.injEq, DataW.lit.injEq, Lit.bool.injEq] at hx
 rw [hrun, hx.1]
theorem Seen.store (h : Seen w m known) (s : Str) (hs : s.size ≤ maxLen) (hn : known.length < maxLen) :
 ∃ w', (Instr.mapUpdate 181 (.map (some m)) (.string s) (.bool true)).run Tryz.prog w = .ok () w' ∧ Seen w' m (known ++ [s]) ∧ w.grownBy w' (some m) := by
 obtain ⟨n, D, h1, h2, h3, h4⟩ := h
 obtain ⟨w', hrun, r1, r2⟩ := h2.update key9 Tryz.underlying181 (by omega) (WideMaps.keyOf_string_mk Tryz.underlying9 hs) (plainElem_bool Tryz.underlying4 true)
 refine ⟨w', hrun, ⟨n + 1, _, by simp; omega, r1, h3.put _ _, fun s' => ?_⟩, r2⟩
 by_cases e : s' = s
 ·
  subst e
  rw [atKey_put_same h3 (show WideAt.IsKeyLit (.string s'.data.toList) from trivial)]
  simp
 ·
  rw [atKey_put_other (by intro hh; apply e; cases s'; cases s; simp at hh; rw [hh]), h4]
  simp [e]
end
theorem wpList_store_seen (w : World) {ops : Array Oper} {rest : List Oper} {o : Oper} {a : Act} {Q : Exit → Act → World → Prop}
 (hg : o.guard = none) (m x v : Operand) (hop : o.op = Op.mapUpdate 181 m x v) (b : Nat) (known : List Str) (hm : a.eval m = .map (some b)) (s : Str) (hx : a.eval x = .string s) (hv : a.eval v = .bool true)
 (h : Seen w b known) (hs : s.size ≤ maxLen) (hn : known.length < maxLen)
 (hK : ∀ w', Seen w' b (known ++ [s]) → w.grownBy w' (some b) → wpList Tryz.prog ops Q rest (a.put o.dst undef) w') : wpList Tryz.prog ops Q (o :: rest) a w := by
 refine wpList_plain hg fun K' hK' => ?_
 obtain ⟨w', hrun, r1, r2⟩ := h.store s hs hn
 unfold Oper.wp
 simp [execOp, hop, hm, hx, hv, hrun, Result.andThen]
 exact hK' _ _ (hK w' r1 r2)
end Go.Proofs.YtmagppkclnebjaaGreatDoor

set_option linter.unusedSimpArgs false
namespace Go.Proofs.YtmagppkclnebjaaGreatDoor
open Go.RowKit
open L

/-- slice address A holds these changes -/
def RdC (w : World) (A : Option Addr) (l : List Chg) : Prop :=
 ∀ k, k < l.length → ∃ b off, A = some ⟨b, off, none⟩ ∧ ∀ j, j < 5 → w.cell? ⟨b, off + k * 5 + j, none⟩ = (l.getD k ⟨0, 0, 0, .empty, 0⟩).val[j]?
theorem RdC.below {w w' : World} {A : Option Addr} {l : List Chg} (h : RdC w A l) (hb : Below w.heap.size w w') : RdC w' A l := fun k hk => by
 obtain ⟨b, off, e, hc⟩ := h k hk
 refine ⟨b, off, e, fun j hj => ?_⟩
 have h0 := hc 0 (by omega)
 have hlt : b < w.heap.size := World.block_lt_of_cell? w ⟨b, off + k * 5 + 0, none⟩ (u := .int .i64 (l.getD k ⟨0, 0, 0, .empty, 0⟩).side) (by rw [h0]; rfl)
 rw [hb.cell (p := ⟨b, off + k * 5 + j, none⟩) hlt]
 exact hc j hj
theorem below_setCells {B : Nat} {a : World} {b : Nat} (hb : B ≤ b) : ∀ (vs : List Value) (o : Nat) (W : World), Below B a W → Below B a (W.setCells b o vs)
 | [], _, _, h => h
 | v :: vs, o, W, h => below_setCells hb vs (o + 1) _ (h.setCell (p := ⟨b, o, none⟩) hb v)
theorem bts_below {a W : World} (h : Below a.heap.size a W) (vs : List Value) (o : Nat) : Below a.heap.size a (W.setCells a.heap.size o vs) := below_setCells (Nat.le_refl _) vs o _ h
theorem LU.rangeB {W : World} {g : Nat} {X : LU} (hX : X.ok) (h : W.rangeAt g 0 X.cells) : ∀ j, j < (X.b.map Value.string).length → W.cell? ⟨g, 0 + j, none⟩ = (X.b.map Value.string)[j]? := fun j hj => by
 have e : X.cells[j]? = (X.b.map Value.string)[j]? := by
  simp only [LU.cells]
  rw [List.getElem?_append_left hj]
 rw [List.getElem?_eq_getElem hj] at e ⊢
 exact h j _ e
def pv (l : List Chg) (k : Nat) : Option Chg := if k = 0 then none else some (l.getD (k - 1) ⟨0, 0, 0, .empty, 0⟩)
def L.Tms.inR (t : Tms) : Prop := (∀ n ∈ t.l0.p, 1 ≤ n ∧ n ≤ 9) ∧ (∀ n ∈ t.l1.p, 1 ≤ n ∧ n ≤ 9)
def kn (t : Tms) : Nat → List Str
 | 0 => []
 | 1 => t.l0.b
 | _ => t.l0.b ++ t.l1.b
theorem info54 : (Tryz.prog.info? 54).map (·.size) = some 36 := by kernel_rfl
theorem run_index54 (w : World) (t : Tms) (ht : t.ok) (k : Nat) (hk : k < 2) : (Instr.index 54 (.agg t.cells.toArray) (.int .i64 k)).run Tryz.prog w = .ok (.agg (t.get k).cells.toArray) w := by
 have h1 := agg33
 have h2 := size33
 have hk' : k = 0 ∨ k = 1 := by omega
 have e0 := Tms.drop0 t ht
 have e1 := Tms.drop18 t ht
 rcases hk' with rfl | rfl
 ·
  simp [Instr.index, asIntOf, run_underlying Tryz.underlying54, part, h1, h2, Tms.get] at e0 ⊢
  rw [e0]
 ·
  simp [Instr.index, asIntOf, run_underlying Tryz.underlying54, part, h1, h2, Tms.get] at e1 ⊢
  rw [e1]

theorem wpList_load_cells_g {P : Program} {ops : Array Oper} {rest : List Oper} {o : Oper} {a : Act} {w : World} {Q : Exit → Act → World → Prop} (ty : TypeId) (x : Operand) (ho : o.op = .load ty x)
 (g off : Nat) (hx : a.eval x = .pointer (some ⟨g, off, none⟩)) (xs : List Value) (h : ∀ j, j < xs.length → w.cell? ⟨g, off + j, none⟩ = xs[j]?) (d : TypeDesc)
 (hu : P.underlying ty = some d) (hd : (match d with | .struct _ | .array _ _ => true | _ => false) = true) (hi : (P.info? ty).map (·.size) = some xs.length)
 (hw : Region.wanted o (yielded ops a.tmps) = true) (hK : wpList P ops Q rest (a.put o.dst (.agg xs.toArray)) w) : wpList P ops Q (o :: rest) a w :=
 wpList_step fun K hK' => by rw [if_pos hw]; exact wp_load_cells ty x ho g off hx xs h d hu hd hi (hK' _ _ hK)
theorem made_same (t : Tms) (ht : t.ok) (d : Chg) (hs : d.side = 0 ∨ d.side = 1) (h : 1 ≤ d.slot ∧ d.slot ≤ 9) : (t.made d).get d.side = t.get d.side ↔ (t.get d.side).bat d.slot = d.name ∧ (t.get d.side).at_ d.slot = d.pos := by
 have key : ∀ X : LU, X.ok → (X.made d.slot d.name d.pos = X ↔ X.bat d.slot = d.name ∧ X.at_ d.slot = d.pos) := fun X hX => by
  obtain ⟨k, hk, hsl⟩ : ∃ k : Nat, k < 9 ∧ (d.slot - 1).toNat = k := ⟨(d.slot - 1).toNat, by omega, rfl⟩
  simp only [LU.made, LU.bat, LU.at_, hsl]
  have hb : k < X.b.length := by rw [hX.1]; exact hk
  have hp : k < X.p.length := by rw [hX.2]; exact hk
  have set_eq : ∀ {α : Type} (xs : List α) (d0 v : α), k < xs.length → (xs.set k v = xs ↔ xs.getD k d0 = v) := fun xs d0 v hx => by
   constructor
   ·
    intro e
    rw [← e]
    simp [List.getD, hx]
   ·
    intro e
    apply List.ext_getElem?
    intro i
    rw [List.getElem?_set]
    split
    ·
     rename_i hi; subst hi
     rw [← e]; simp [List.getD, hx]
    ·
     rfl
  rw [← set_eq X.b .empty d.name hb, ← set_eq X.p 0 d.pos hp]
  cases X
  simp
 rcases hs with hs | hs
 ·
  have := key t.l0 ht.1
  simpa [Tms.made, Tms.get, hs] using this
 ·
  have := key t.l1 ht.2
  simpa [Tms.made, Tms.get, hs] using this
theorem Tms.rangeG {W : World} {g : Nat} {t : Tms} (h : Bk W g 54 t.cells.toArray) (ht : t.ok) {side : Int} (hs : side = 0 ∨ side = 1) :
 ∀ j, j < (t.get side).cells.length → W.cell? ⟨g, side.toNat * 18 + j, none⟩ = (t.get side).cells[j]? := fun j hj => by
 rcases hs with rfl | rfl
 ·
  simp only [Tms.get, if_true, Int.toNat_zero, Nat.zero_mul] at hj ⊢
  rw [h.cell, List.getElem?_toArray]; exact Tms.cell_l0 t ht j hj
 ·
  simp only [Tms.get] at hj ⊢
  rw [h.cell, List.getElem?_toArray]; exact Tms.cell_l1 t ht j
def zero18 : Array Value := #[.string { data := #[] }, .string { data := #[] }, .string { data := #[] }, .string { data := #[] }, .string { data := #[] }, .string { data := #[] }, .string { data := #[] }, .string { data := #[] }, .string { data := #[] }, .int .i64 0, .int .i64 0, .int .i64 0, .int .i64 0, .int .i64 0, .int .i64 0, .int .i64 0, .int .i64 0, .int .i64 0]
theorem store33_there (W : World) (X : LU) (hX : X.ok) : (W.alloc (.cells #[.string { data := #[] }, .string { data := #[] }, .string { data := #[] }, .string { data := #[] }, .string { data := #[] }, .string { data := #[] }, .string { data := #[] }, .string { data := #[] }, .string { data := #[] }, .int .i64 0, .int .i64 0, .int .i64 0, .int .i64 0, .int .i64 0, .int .i64 0, .int .i64 0, .int .i64 0, .int .i64 0] 33)).there W.heap.size 0 X.cells.toArray.size := fun j hj => by
 have h18 : X.cells.toArray.size = 18 := by simp [LU.cells_len _ hX]
 rw [h18] at hj
 have hk := Bk.new W 33 #[.string { data := #[] }, .string { data := #[] }, .string { data := #[] }, .string { data := #[] }, .string { data := #[] }, .string { data := #[] }, .string { data := #[] }, .string { data := #[] }, .string { data := #[] }, .int .i64 0, .int .i64 0, .int .i64 0, .int .i64 0, .int .i64 0, .int .i64 0, .int .i64 0, .int .i64 0, .int .i64 0]
 exact ⟨by rw [hk.cell, Nat.zero_add]; simp [hj], hk.frozen _⟩
theorem LU.oneCell (X : LU) : X.cells.toArray.all (·.oneCell') = true := all_oneCell_toArray (by intro v hv; simp [LU.cells] at hv; rcases hv with ⟨_, _, rfl⟩ | ⟨_, _, rfl⟩ <;> rfl)
theorem LU.info33 (X : LU) (hX : X.ok) : (Tryz.prog.info? 33).map (·.size) = some X.cells.toArray.size := by
 rw [Go.Proofs.YtmagppkclnebjaaGreatDoor.info33]; simp [LU.cells_len _ hX]
theorem store33_range (W : World) (X : LU) (hX : X.ok) : ((W.alloc (.cells #[.string { data := #[] }, .string { data := #[] }, .string { data := #[] }, .string { data := #[] }, .string { data := #[] }, .string { data := #[] }, .string { data := #[] }, .string { data := #[] }, .string { data := #[] }, .int .i64 0, .int .i64 0, .int .i64 0, .int .i64 0, .int .i64 0, .int .i64 0, .int .i64 0, .int .i64 0, .int .i64 0] 33)).setCells W.heap.size 0 X.cells.toArray.toList).rangeAt W.heap.size 0 X.cells := by
 have h := World.rangeAt_setCells_same _ W.heap.size 0 X.cells.toArray.toList (by simpa using store33_there W X hX)
 simpa using h

theorem mem_set_range {xs : List Int} {k : Nat} {v : Int} (h : ∀ n ∈ xs, 1 ≤ n ∧ n ≤ 9) (hv : 1 ≤ v ∧ v ≤ 9) : ∀ n ∈ xs.set k v, 1 ≤ n ∧ n ≤ 9 := fun n hn => by
 rcases List.mem_or_eq_of_mem_set hn with h1 | rfl
 ·
  exact h n h1
 ·
  exact hv
theorem made_inR (t : Tms) (h : t.inR) (d : Chg) (hp : 1 ≤ d.pos ∧ d.pos ≤ 9) : (t.made d).inR := by
 unfold Tms.made
 split
 ·
  exact ⟨mem_set_range h.1 hp, h.2⟩
 ·
  exact ⟨h.1, mem_set_range h.2 hp⟩
theorem inR_get (t : Tms) (h : t.inR) (side : Int) : ∀ n ∈ (t.get side).p, 1 ≤ n ∧ n ≤ 9 := by
 unfold Tms.get
 split
 ·
  exact h.1
 ·
  exact h.2

end Go.Proofs.YtmagppkclnebjaaGreatDoor

set_option linter.unusedSimpArgs false
namespace Go.Proofs.YtmagppkclnebjaaGreatDoor
open Go.RowKit
open L

def fillA : Array Value → Nat → List Value → Array Value
 | cs, _, [] => cs
 | cs, o, v :: r => fillA (cs.setIfInBounds o v) (o + 1) r
theorem fillA_size : ∀ (vs : List Value) (cs : Array Value) (o : Nat), (fillA cs o vs).size = cs.size
 | [], _, _ => rfl
 | v :: r, cs, o => by rw [fillA, fillA_size r, Array.size_setIfInBounds]
theorem fillA_out : ∀ (vs : List Value) (cs : Array Value) (o j : Nat), j < o → (fillA cs o vs)[j]? = cs[j]?
 | [], _, _, _, _ => rfl
 | v :: r, cs, o, j, h => by rw [fillA, fillA_out r _ _ _ (by omega), Array.getElem?_setIfInBounds, if_neg (by omega)]
theorem fillA_in : ∀ (vs : List Value) (cs : Array Value) (o j : Nat), o + vs.length ≤ cs.size → j < vs.length → (fillA cs o vs)[o + j]? = vs[j]?
 | [], _, _, j, _, h => by simp at h
 | v :: r, cs, o, j, hs, h => by
  rw [fillA]
  simp only [List.length_cons] at hs h
  cases j with
  | zero =>
   rw [fillA_out r _ _ _ (by omega), Array.getElem?_setIfInBounds, if_pos (by omega), if_pos (by omega)]
   rfl
  | succ j =>
   have := fillA_in r (cs.setIfInBounds o v) (o + 1) j (by rw [Array.size_setIfInBounds]; omega) (by omega)
   rw [show o + (j + 1) = o + 1 + j by omega, this]; simp
theorem fillA_all (vs : List Value) (cs : Array Value) (h : cs.size = vs.length) : fillA cs 0 vs = vs.toArray := by
 apply Array.ext_getElem?
 intro j
 by_cases hj : j < vs.length
 ·
  have := fillA_in vs cs 0 j (by omega) hj
  rw [Nat.zero_add] at this
  rw [this, List.getElem?_toArray]
 ·
  rw [Array.getElem?_eq_none (by rw [fillA_size]; omega), Array.getElem?_eq_none (by simp; omega)]
theorem Bk.fillA {g : Nat} {t : TypeId} : ∀ (vs : List Value) (o : Nat) {w : World} {cs : Array Value}, Bk w g t cs → Bk (w.setCells g o vs) g t (fillA cs o vs)
 | [], _, _, _, h => h
 | v :: r, o, _, _, h => Bk.fillA r (o + 1) (h.set_ o v)
theorem Bk.fill {w : World} {g : Nat} {t : TypeId} {cs : Array Value} (h : Bk w g t cs) (vs : Array Value) (hs : cs.size = vs.size) : Bk (w.setCells g 0 vs.toList) g t vs := by
 have := Bk.fillA vs.toList 0 h
 rwa [fillA_all _ _ (by simpa using hs), Array.toArray_toList] at this
theorem Bk.there {w : World} {g : Nat} {t : TypeId} {cs : Array Value} (h : Bk w g t cs) (n : Nat) (hn : n ≤ cs.size) : w.there g 0 n := fun j hj =>
 ⟨by rw [h.cell, Nat.zero_add, Array.getElem?_eq_getElem (by omega)]; rfl, h.frozen _⟩
theorem Bk.setsFar {g g' : Nat} {t : TypeId} {cs : Array Value} (hne : g ≠ g') : ∀ (vs : List Value) (o : Nat) {w : World}, Bk w g t cs → Bk (w.setCells g' o vs) g t cs
 | [], _, _, h => h
 | v :: r, o, _, h => Bk.setsFar hne r (o + 1) (h.far (p := ⟨g', o, none⟩) hne v)
theorem below_sets {B : Nat} {a : World} {b : Nat} (hb : B ≤ b) {W : World} (h : Below B a W) (vs : List Value) (o : Nat) : Below B a (W.setCells b o vs) := below_setCells hb vs o W h
theorem Tms.oneCell (t : Tms) : t.cells.toArray.all (·.oneCell') = true := all_oneCell_toArray (by
 intro v hv
 simp only [Tms.cells, LU.cells, List.mem_append, List.mem_map] at hv
 rcases hv with (⟨_, _, rfl⟩ | ⟨_, _, rfl⟩) | (⟨_, _, rfl⟩ | ⟨_, _, rfl⟩) <;> rfl)
theorem Tms.size36 (t : Tms) (h : t.ok) : t.cells.toArray.size = 36 := by simp [Tms.cells_len t h]
theorem info54s (n : Nat) (h : n = 36) : (Tryz.prog.info? 54).map (·.size) = some n := by rw [info54, h]
theorem LU.size18 (l : LU) (h : l.ok) : l.cells.toArray.size = 18 := by simp [LU.cells_len l h]
/-- a result that lies in a block, and one beside it -/
theorem results_cell_row2 {P : Program} {fn : Func} {p u : Tmp} {ty : TypeId} (h : fn.results = #[.cell p ty, .tmp u]) (tmps : Array Value) (w : World) (g : Nat) (t : TypeId) (cs : Array Value) (d : TypeDesc)
 (hp : tmps.getD p undef = .pointer (some ⟨g, 0, none⟩)) (hg : Bk w g t cs)
 (hu : P.underlying ty = some d) (hd : (match d with | .struct _ | .array _ _ => true | _ => false) = true) (hi : (P.info? ty).map (·.size) = some cs.size) :
 (results fn tmps).run P w = .ok (.tuple #[.agg cs, tmps.getD u undef]) w := by
 rw [results_cell_tmp h, hp]
 simp [asAddr, run_loadVar_row w g t ty cs (0, 0) d hg hu hd hi]

theorem Rd.lu_b {W : World} {g o : Nat} {l : LU} (h : ∀ j, j < l.cells.length → W.cell? ⟨g, o + j, none⟩ = l.cells[j]?) : Rd W (some ⟨g, o, none⟩) (l.b.map .string) :=
 .of_cells fun k hk => by
  have hk' : k < l.cells.length := by simp [LU.cells] at hk ⊢; omega
  rw [h k hk']
  simp only [LU.cells]
  rw [List.getElem?_append_left hk]
theorem Rd.lu_p {W : World} {g o : Nat} {l : LU} (hl : l.ok) (h : ∀ j, j < l.cells.length → W.cell? ⟨g, o + j, none⟩ = l.cells[j]?) : Rd W (some ⟨g, o + 9, none⟩) (l.p.map (.int .i64)) :=
 .of_cells fun k hk => by
  have hk' : 9 + k < l.cells.length := by simp [LU.cells, hl.1] at hk ⊢; omega
  rw [Nat.add_assoc, h (9 + k) hk']
  simp only [LU.cells]
  rw [List.getElem?_append_right (by simp [hl.1])]
  simp [hl.1]
theorem LU.bkCells {W : World} {g : Nat} {ty : TypeId} {l : LU} (h : Bk W g ty l.cells.toArray) : ∀ j, j < l.cells.length → W.cell? ⟨g, 0 + j, none⟩ = l.cells[j]? := fun j _ => by
 rw [h.cell, List.getElem?_toArray, Nat.zero_add]
theorem LU.cell_b {W : World} {g : Nat} {ty : TypeId} {l : LU} (hl : l.ok) (h : Bk W g ty l.cells.toArray) (k : Nat) (hk : k < 9) : W.cell? ⟨g, k, none⟩ = some (.string (l.b.getD k .empty)) := by
 rw [h.cell, List.getElem?_toArray]
 simp only [LU.cells]
 rw [List.getElem?_append_left (by simp [hl.1]; omega), getD_map_str _ _ (by rw [hl.1]; exact hk)]
theorem idxF_lt {α : Type} (p : α → Bool) (l : List α) (n : Nat) (h : l.length = n) : idxF p l < n := by have := idxF_bd p l; omega
theorem Rd.below {w w' : World} {A : Option Addr} {xs : List Value} (h : Rd w A xs) (hb : Below w.heap.size w w') : Rd w' A xs := by
 rcases h with rfl | ⟨b, off, rfl, hc⟩
 ·
  exact .inl rfl
 ·
  refine .inr ⟨b, off, rfl, fun k hk => ?_⟩
  have h0 := hc k hk
  rw [hb.cell (p := ⟨b, off + k, none⟩) (World.block_lt_of_cell? w ⟨b, off + k, none⟩ (u := xs[k]) (by rw [h0, List.getElem?_eq_getElem hk]))]
  exact h0
theorem Rd.belowB {w0 w : World} {A : Option Addr} {xs : List Value} (h : Rd w0 A xs) (hb : Below w0.heap.size w0 w) : Rd w A xs := h.below hb
/-- a slice of n elements of k cells each, as it reads -/
def SlK (k : Nat) (w : World) (v : Value) (n : Nat) (xs : List Value) : Prop := xs.length = n * k ∧ ∃ A c, v = .slice A n c ∧ Rd w A xs
theorem SlK.below {k n : Nat} {w w' : World} {v : Value} {xs : List Value} (h : SlK k w v n xs) (hb : Below w.heap.size w w') : SlK k w' v n xs := by
 obtain ⟨h1, A, c, e, hr⟩ := h
 exact ⟨h1, A, c, e, hr.below hb⟩
theorem SlK.nil (k : Nat) (w : World) : SlK k w (.slice none 0 0) 0 [] := ⟨by simp, none, 0, rfl, .inl rfl⟩
theorem SlK.of_own {w : World} {base : Nat} {e : TypeId} {k n : Nat} {v : Value} {xs : List Value} (h : w.ownsRow base e k v n xs) : SlK k w v n xs := by
 refine ⟨h.1, ?_⟩
 rcases h.2 with ⟨rfl, rfl⟩ | ⟨g, cap, cur, rfl, hbg, hg, hnc, hcm, hcs, htake⟩
 ·
  have hx : xs = [] := List.eq_nil_of_length_eq_zero (by simpa using h.1)
  exact ⟨none, 0, rfl, .inl hx⟩
 ·
  refine ⟨_, _, rfl, .inr ⟨g, 0, rfl, fun j hj => ?_⟩⟩
  have := h.cells (g := g) rfl j _ (List.getElem?_eq_getElem hj)
  rw [Addr.add_mid] at this
  rw [this, List.getElem?_eq_getElem hj]
end Go.Proofs.YtmagppkclnebjaaGreatDoor
