/- Texts of this seat, joined: A range over an iterator that keeps a struct of its own in one new block: the statement's law, for a body that never leaves · lineup.stints: the iterator over the stints of a slot gives them to whatever loop body keeps its memory · lineup.all: the stints of all slots of both sides · slices.DeleteFunc at the stints, with the closure of Pitchers: what is no pitcher's stint of the side goes · slices.DeleteFunc at the stints, whole · What stays as it is while only new blocks come · What '==' gives at changes, at stints and at deviations, of either package. -/
import Derived.RangeFuncNested
import Derived.RangeFuncBound
import Derived.RangeFuncCalls
import Derived.RangeFuncLeaves
import Derived.Test.YtmagppkclnebjaaGreatDoorQg
import Derived.Shelf.Abstract
import Derived.Shelf.RegionOpen
import Derived.OwnWalkIn
import Derived.TacticsInMore
import Derived.LoopNIn
import Derived.LoopIn
import Derived.Sort.CutIn
import Derived.Maps.AppendAt
import Derived.OwnWalk
import Derived.Laws.OwnMore
set_option linter.unusedVariables false
set_option linter.unusedSimpArgs false
namespace Go.Proofs.YtmagppkclnebjaaGreatDoor
open Go Go.RowKit

section
variable {F : Fence} {n : Nat} {P : Program}

/-- how a body that never leaves ends a round -/
def onPost {α : Type} (B : Nat) (Kp : World → World → Prop) (I : List α → World → Prop) (xs : List α) (W : World) : Exit → Act → World → Prop
 | .normal, _, W' => KeepsFrom B W W' ∧ Kp W W' ∧ I xs W'
 | _, _, _ => False

theorem wpIn_rangeFunc_row {α : Type} {g : Operand} {ps : Array Tmp} {assign body : Code} {Q : Exit → Act → World → Prop} {a : Act} {w : World}
 (hro : F.round = none) (h1 : 1 ≤ n) {gf : Nat} {lb : Array Value} (hg : a.eval g = .func (.func gf) #[] lb) (hFg : F.fn gf) (eg : ∀ args w, (callFunc gf args).run P w = .ok (.enter gf args) w)
 {encs : α → Array Value} {Kp : World → World → Prop} {xs : List α}
 (hseq : ∀ (l : Nat) (J : List α → World → Prop) (W : World), Below w.heap.size w W → W.heap.size = w.heap.size + 2 → (∀ s A B, J s A → A.grownBy B (some (w.heap.size + 2)) → J s B) →
  (∀ pre x W1, J pre W1 → pre.length < xs.length → w.heap.size + 2 < W1.heap.size → YieldAt F (n - 1 - 1) P l (encs x) W1 fun e W' => e = .returned (.bool true) ∧ J (pre ++ [x]) W' ∧ Kp W1 W') →
  J [] W → CallsIn F (n - 1) P gf (#[.func (.yield l) #[] #[]] ++ lb) W fun e W' => (∃ v, e = .returned v) ∧ J xs W')
 (hKt : ∀ {A B C : World}, Kp A B → Kp B C → Kp A C) (hKb : ∀ (W : World) (o o' : Obj), W.heap[w.heap.size + 1]? = some o → o.isCells = false → Kp W (W.putObj (w.heap.size + 1) o')) (hps : ∀ x, (encs x).size = ps.size)
 (I : List α → World → Prop) (hI : ∀ s W W' row, I s W → W.grownBy W' row → (row = none ∨ row = some (w.heap.size + 1) ∨ row = some (w.heap.size + 2)) → I s W') (h0 : I [] w)
 (Ax : α → Act → World → Prop) (hAx : ∀ x a' W W', Ax x a' W → W.grownBy W' (some (w.heap.size + 1)) → Ax x a' W')
 (hassign : ∀ (l : Nat) (pre : List α) (x : α) (W : World) (K : Act → World → Prop), I pre W → w.heap.size + 2 < W.heap.size → (∀ a' W', KeepsFrom w.heap.size W W' → Kp W W' → I pre W' → Ax x a' W' → K a' W') →
  assign.wpIn (F.inRound l) (n - 1 - 1) P (Exit.then K (fun _ _ _ => False)) { tmps := (ps.zip (encs x)).foldl (fun t (p, v) => t.setIfInBounds p v) a.tmps, defers := [] } W)
 (hbody : ∀ (l : Nat) (pre : List α) (x : α) (a' : Act) (W : World), I pre W → Ax x a' W → pre.length < xs.length → w.heap.size + 2 < W.heap.size → body.wpIn (F.inRound l) (n - 1 - 1) P (onPost w.heap.size Kp I (pre ++ [x]) W) a' W)
 (hdone : ∀ (W : World), I xs W → W.heap[w.heap.size]? = some (.deferred (some [])) → Q .normal { a with defers := { target := .collected w.heap.size, args := #[] } :: a.defers } W) :
 (Code.rangeFunc g ps assign body).wpIn F n P Q a w := by
 refine wpIn_rangeFunc ?_
 intro fn hfn
 rw [hro]
 obtain ⟨rec, hrec⟩ : ∃ rec : LoopState → Option Code → Loop, rec = fun st pe => { state := st, pending := pe, fn, tmps := a.tmps, params := ps, assign, body, defers := w.heap.size } := ⟨_, rfl⟩
 obtain ⟨W1, hW1⟩ : ∃ W1, (w.alloc (.deferred (some []))).alloc (.loop (rec .ready none)) = W1 := ⟨_, rfl⟩
 have hL1 : W1.heap[w.heap.size + 1]? = some (.loop (rec .ready none)) := by
  rw [← hW1]; have := World.alloc_heap_new (w.alloc (.deferred (some []))) (.loop (rec .ready none)); rwa [World.size_alloc] at this
 have hK1 : W1.heap[w.heap.size]? = some (.deferred (some [])) := by
  rw [← hW1]; exact (Below.heap_alloc _ _ _ (by simp)).trans (World.alloc_heap_new w _)
 have hI1 : I [] W1 := by
  rw [← hW1]
  exact hI _ _ _ none (hI _ _ _ none h0 (World.grownBy_alloc _ _ _) (.inl rfl)) (World.grownBy_alloc _ _ _) (.inl rfl)
 have hb1 : Below w.heap.size w W1 := by
  rw [← hW1]; exact ((Below.refl _ w).alloc (Nat.le_refl _) _).alloc (by simp) _
 have hs1 : W1.heap.size = w.heap.size + 2 := by rw [← hW1]; simp
 have put : ∀ (s : List α) (W : World) (o' : Obj), I s W → I s (W.putObj (w.heap.size + 1) o') := fun s W o' hs => hI _ _ _ (some (w.heap.size + 1)) hs (grownBy_putObj' _ _ _) (.inr (.inl rfl))
 refine ⟨w.heap.size + 1, [{ target := .collected w.heap.size, args := #[] }], W1, { target := .fn (.func gf) lb, args := #[.func (.yield (w.heap.size + 1)) #[] #[]] }, W1, gf,
  #[.func (.yield (w.heap.size + 1)) #[] #[]] ++ lb, W1, ?_, ?_, ?_, ?_, fun _ => h1, ?_⟩
 ·
  rw [← hW1, hrec]; exact run_enterLoop_outer _ _ _ _ _
 ·
  simp only [resolve, hg]
  simp [go_sem]
 ·
  intro f' hf'; simp [Target.leads] at hf'; subst hf'; exact hFg
 ·
  simp [invoke, go_sem, eg]
 ·
  refine (hseq (w.heap.size + 1)
   (fun pre W => I pre W ∧ W.heap[w.heap.size + 1]? = some (.loop (rec .ready none)) ∧ W.heap[w.heap.size]? = some (.deferred (some [])))
   W1 hb1 hs1
   (fun s A B hs hg' => ⟨hI s A B _ hs.1 hg' (.inr (.inr rfl)), (hg'.block _ (Array.getElem?_eq_some_iff.1 hs.2.1).1 (by simp)).trans hs.2.1, (hg'.block _ (Array.getElem?_eq_some_iff.1 hs.2.2).1 (by simp)).trans hs.2.2⟩)
   ?_ ⟨hI1, hL1, hK1⟩).mono ?_
  ·
   rintro pre x W ⟨hi, hl, hk⟩ hlen hbig
   have hlt : w.heap.size + 1 < W.heap.size := (Array.getElem?_eq_some_iff.1 hl).1
   have hy := run_yield (P := P) (args := encs x) hl (by rw [hrec]; exact hps x)
   rw [hrec] at hy
   refine ⟨fn, _, assign, body, hy, roundIn_of_wpIn hfn (hassign _ pre x W _ hi hbig ?_)⟩
   clear hy
   intro a' Wa hkfa hkpa hia hax
   have hla := hkfa.same _ _ (by omega) hl rfl
   have hka := hkfa.same _ _ (Nat.le_refl _) hk rfl
   have hlta : w.heap.size + 1 < Wa.heap.size := (Array.getElem?_eq_some_iff.1 hla).1
   have hbiga : w.heap.size + 2 < Wa.heap.size := Nat.lt_of_lt_of_le hbig hkfa.size
   refine ⟨_, run_beginRound hla (by rw [hrec]), ?_⟩
   have hl2 : (Wa.putObj (w.heap.size + 1) (.loop { rec .ready none with state := .busy })).heap[w.heap.size + 1]? = some (.loop { rec .ready none with state := .busy }) := World.putObj_heap_same hlta
   have hk2 : (Wa.putObj (w.heap.size + 1) (.loop { rec .ready none with state := .busy })).heap[w.heap.size]? = some (.deferred (some [])) := (World.putObj_heap_other (by omega)).trans hka
   have hw2 : Kp Wa (Wa.putObj (w.heap.size + 1) (.loop { rec .ready none with state := .busy })) := hKb _ _ _ hla rfl
   refine wpIn_mono (hbody _ pre x a' _ (put _ _ _ hia) (hAx _ _ _ _ hax (grownBy_putObj' _ _ _)) hlen (by simpa using hbiga)) ?_
   rintro e a3 W3 hp
   cases e with
   | normal =>
    obtain ⟨hk3, hkp3, hi3⟩ := hp
    have hl3 := hk3.same _ _ (by omega) hl2 rfl
    have hr := run_endRound (P := P) none hl3
    rw [hrec] at hr hl3
    refine ⟨_, _, hr, rfl, ⟨put _ _ _ hi3, ?_, ?_⟩, hKt hkpa (hKt (hKt hw2 hkp3) (hKb _ _ _ hl3 rfl))⟩
    ·
     rw [hrec]; exact World.putObj_heap_same (Array.getElem?_eq_some_iff.1 hl3).1
    ·
     exact (World.putObj_heap_other (by omega)).trans (hk3.same _ _ (Nat.le_refl _) hk2 rfl)
   | ret => exact hp.elim
   | exit id => exact hp.elim
   | goto t => exact hp.elim
   | panic ch => exact hp.elim
   | outgrown => exact hp.elim
  ·
   rintro e W2 ⟨⟨v, rfl⟩, hi, hl, hk⟩
   exact ⟨none, _, by have := run_endLoop (P := P) hl (by rw [hrec]; simp); rw [hrec] at this; exact this, hdone _ (put _ _ _ hi) ((World.putObj_heap_other (by omega)).trans hk)⟩
end
end Go.Proofs.YtmagppkclnebjaaGreatDoor

set_option linter.unusedSimpArgs false
namespace Go.Proofs.YtmagppkclnebjaaGreatDoor
open Go.RowKit Go.Shelf
open L
attribute [local go_sem] Oper.semAt_some

def L.Sti.val (s : Sti) : Array Value := #[.int .i64 s.side, .int .i64 s.slot, .int .i64 s.pos, .string s.name, .int .i64 s.fr, .int .i64 s.to]
/-- the variables that the iterator has captured -/
structure Caps (W : World) (g : Nat) (t : Tms) (A : Option Addr) (k c : Nat) (p side slot : Int) : Prop where
 bt : Bk W g 54 t.cells.toArray
 bl : Bk W (g + 1) 56 #[.slice A k c]
 bp : Bk W (g + 2) 3 #[.int .i64 p]
 bs : Bk W (g + 3) 3 #[.int .i64 side]
 bo : Bk W (g + 4) 3 #[.int .i64 slot]
theorem Caps.kept {W W' : World} {g k c : Nat} {t : Tms} {A : Option Addr} {p side slot : Int} (h : Caps W g t A k c p side slot) (hk : ∀ b, g ≤ b → b < g + 5 → W'.heap[b]? = W.heap[b]?) : Caps W' g t A k c p side slot :=
 ⟨(hk g (by omega) (by omega)).trans h.bt, (hk _ (by omega) (by omega)).trans h.bl, (hk _ (by omega) (by omega)).trans h.bp, (hk _ (by omega) (by omega)).trans h.bs, (hk _ (by omega) (by omega)).trans h.bo⟩
theorem Caps.grown {W W' : World} {g k c : Nat} {t : Tms} {A : Option Addr} {p side slot : Int} (h : Caps W g t A k c p side slot) {row : Option Nat} (hg : W.grownBy W' row) (hr : ∀ r, row = some r → g + 5 ≤ r) : Caps W' g t A k c p side slot :=
 h.kept fun b h1 h2 => hg.block b (by have := h.bo.lt; omega) (fun e => by have := hr _ e.symm; omega)

/-- what a round of the loop over the iterator keeps: what lay below n0; the captured variables and the iterator's own block; the copies of changes -/
def KpS (n0 g B : Nat) (W W' : World) : Prop :=
 Below n0 W W' ∧ W.heap.size ≤ W'.heap.size ∧ (∀ b, g ≤ b → (b < g + 5 ∨ b = B) → W'.heap[b]? = W.heap[b]?) ∧ ∀ b cs, Bk W b 142 cs → Bk W' b 142 cs
theorem grownBy_drewN {a w : World} {row : Option Nat} (h : a.grownBy w row) (n : Nat) : a.grownBy (w.drewN n) row := ⟨h.os, h.tape, h.output, h.size, h.block⟩
theorem stints_any (T : Array Value) (A : Option Addr) (k c : Nat) (p side slot : Int) (w : World) :
 Calls Tryz.prog 132 #[.agg T, .slice A k c, .int .i64 p, .int .i64 side, .int .i64 slot] w fun x w' =>
  x = .returned (.func (.func 151) #[] #[.pointer (some ⟨w.heap.size + 3, 0, none⟩), .pointer (some ⟨w.heap.size + 4, 0, none⟩), .pointer (some ⟨w.heap.size, 0, none⟩), .pointer (some ⟨w.heap.size + 1, 0, none⟩), .pointer (some ⟨w.heap.size + 2, 0, none⟩)]) ∧
  w' = ((((w.alloc (.cells T 54)).alloc (.cells #[.slice A k c] 56)).alloc (.cells #[.int .i64 p] 3)).alloc (.cells #[.int .i64 side] 3)).alloc (.cells #[.int .i64 slot] 3) := by
 go_enter Tryz.func132, Tryz.ntmps132
 go_wp2
 go_ret
 exact ⟨rfl, rfl⟩

theorem stLoop_skip (n side slot : Int) (now : Sti) (d : Chg) (r : List Chg) (h : d.side ≠ side ∨ d.slot ≠ slot ∨ n ≤ d.play) : stLoop n side slot now (d :: r) = stLoop n side slot now r := by rw [stLoop, if_pos h]
theorem stLoop_take (n side slot : Int) (now : Sti) (d : Chg) (r : List Chg) (h : ¬ (d.side ≠ side ∨ d.slot ≠ slot ∨ n ≤ d.play)) :
 stLoop n side slot now (d :: r) = (if now.fr < d.play then [⟨now.side, now.slot, now.pos, now.name, now.fr, d.play⟩] else []) ++ stLoop n side slot ⟨side, slot, d.pos, d.name, d.play, 0⟩ r := by rw [stLoop, if_neg h]

set_option maxHeartbeats 4000000 in
set_option maxRecDepth 100000 in
theorem stints1_in (n : Nat) (hn1 : 1 ≤ n) (t : Tms) (ht : t.ok) (l : List Chg) (A : Option Addr) (k c : Nat) (hk : l.length = k) (hle : k ≤ 1000) (p side slot : Int) (hs : side = 0 ∨ side = 1) (h1 : 1 ≤ slot) (h9 : slot ≤ 9)
 (g B n0 : Nat) (hgB : g + 5 ≤ B) (hn0 : n0 ≤ g) (w0 : World) (hw0 : w0.heap.size = n0) (hl : RdC w0 A l)
 (lp : Nat) (J : List Sti → World → Prop) (W : World) (hW : W.heap.size = B) (hbl : Below n0 w0 W) (hc : Caps W g t A k c p side slot)
 (hJ : ∀ s X Y, J s X → X.grownBy Y (some B) → J s Y)
 (hY : ∀ pre x W1, J pre W1 → pre.length < (stintsL t l p side slot).length → B < W1.heap.size → YieldAt Fence.wide (n - 1) Tryz.prog lp #[.agg x.val] W1 fun e W' =>
  e = .returned (.bool true) ∧ J (pre ++ [x]) W' ∧ KpS n0 g B W1 W')
 (h0 : J [] W) :
 CallsIn Fence.wide n Tryz.prog 151 #[.func (.yield lp) #[] #[], .pointer (some ⟨g + 3, 0, none⟩), .pointer (some ⟨g + 4, 0, none⟩), .pointer (some ⟨g, 0, none⟩), .pointer (some ⟨g + 1, 0, none⟩), .pointer (some ⟨g + 2, 0, none⟩)] W
  fun e W' => (∃ v, e = .returned v) ∧ J (stintsL t l p side slot) W' := by
 have Hl := Lib.hid hl; have Hk := Lib.hid hk; have Ht := Lib.hid ht; have Hs := Lib.hid hs; have HJ := Lib.hid hJ; have HY := Lib.hid hY; have Hw0 := Lib.hid hw0
 have Hbl := Lib.hid hbl; have Hc := Lib.hid hc; have H0 := Lib.hid h0
 clear hl hk ht hJ hY hbl hc h0 hw0 hs
 have c3 : W.cell? ⟨g + 3, 0, none⟩ = some (.int .i64 side) := by rw [Hc.out.bs.cell]; rfl
 have c4 : W.cell? ⟨g + 4, 0, none⟩ = some (.int .i64 slot) := by rw [Hc.out.bo.cell]; rfl
 refine callsIn_of_wp Tryz.func151 rfl trivial ?_ rfl
 simp only [Tryz.ntmps151, List.size_toArray, List.length_cons, List.length_nil, Nat.reduceAdd, Nat.reduceSub, Array.replicate_succ, Array.replicate_zero, List.push_toArray, List.append_toArray, List.nil_append, List.cons_append]
 have hnw : ∀ b, b < B → ∀ o, (W.alloc o).cell? ⟨b, 0, none⟩ = W.cell? ⟨b, 0, none⟩ := fun b hb o => World.cell?_alloc_lt W o ⟨b, 0, none⟩ (by show b < _; omega)
 have c3' : ∀ o, (W.alloc o).cell? ⟨g + 3, 0, none⟩ = some (.int .i64 side) := fun o => (hnw _ (by omega) o).trans c3
 have c4' : ∀ o, (W.alloc o).cell? ⟨g + 4, 0, none⟩ = some (.int .i64 slot) := fun o => (hnw _ (by omega) o).trans c4
 have F : Hid (∀ o, Bk (W.alloc o) g 54 t.cells.toArray) := fun o => Hc.out.bt.alloc o
 clear hnw
 have c1' : ∀ o, (W.alloc o).cell? ⟨g + 1, 0, none⟩ = some (.slice A k c) := fun o => by rw [(Hc.out.bl.alloc o).cell]; rfl
 gi_upto_region 2 with (first
  | (refine ⟨trivial, ?_⟩; gi_at_call 73; refine (callsIn_wide.2 (player_any t Ht.out g side slot Hs.out h1 h9 _ (F.out _))).mono ?_; rintro e w2 ⟨rfl, nn, rfl⟩)
  | (gi_at_call 73; refine (callsIn_wide.2 (player_any t Ht.out g side slot Hs.out h1 h9 _ (F.out _))).mono ?_; rintro e w2 ⟨rfl, nn, rfl⟩))
 have hg0 : W.grownBy ((((W.alloc (.cells #[.int .i64 side, .int .i64 slot, .int .i64 0, .string { data := #[] }, .int .i64 0, .int .i64 0] 107)).drewN nn).setCell ⟨B, 3, none⟩ (.string ((t.get side).bat slot))).setCell ⟨B, 2, none⟩ (.int .i64 ((t.get side).at_ slot))) (some B) :=
  only_set (only_set (grownBy_drewN (World.grownBy_alloc W _ (some B)) nn) 3 _) 2 _
 have F1 : Hid (Below n0 w0 ((((W.alloc (.cells #[.int .i64 side, .int .i64 slot, .int .i64 0, .string { data := #[] }, .int .i64 0, .int .i64 0] 107)).drewN nn).setCell ⟨B, 3, none⟩ (.string ((t.get side).bat slot))).setCell ⟨B, 2, none⟩ (.int .i64 ((t.get side).at_ slot))) ∧
  Caps ((((W.alloc (.cells #[.int .i64 side, .int .i64 slot, .int .i64 0, .string { data := #[] }, .int .i64 0, .int .i64 0] 107)).drewN nn).setCell ⟨B, 3, none⟩ (.string ((t.get side).bat slot))).setCell ⟨B, 2, none⟩ (.int .i64 ((t.get side).at_ slot))) g t A k c p side slot ∧
  Bk ((((W.alloc (.cells #[.int .i64 side, .int .i64 slot, .int .i64 0, .string { data := #[] }, .int .i64 0, .int .i64 0] 107)).drewN nn).setCell ⟨B, 3, none⟩ (.string ((t.get side).bat slot))).setCell ⟨B, 2, none⟩ (.int .i64 ((t.get side).at_ slot))) B 107 (Sti.val ⟨side, slot, (t.get side).at_ slot, (t.get side).bat slot, 0, 0⟩) ∧
  J [] ((((W.alloc (.cells #[.int .i64 side, .int .i64 slot, .int .i64 0, .string { data := #[] }, .int .i64 0, .int .i64 0] 107)).drewN nn).setCell ⟨B, 3, none⟩ (.string ((t.get side).bat slot))).setCell ⟨B, 2, none⟩ (.int .i64 ((t.get side).at_ slot)))) := by
  refine ⟨Hbl.out.grown hg0 (by omega) (fun r e => by have := Option.some.inj e; omega), Hc.out.grown hg0 (fun r e => by have := Option.some.inj e; omega), ?_, HJ.out _ _ _ H0.out hg0⟩
  have hb := Bk.new W 107 #[.int .i64 side, .int .i64 slot, .int .i64 0, .string { data := #[] }, .int .i64 0, .int .i64 0]
  rw [hW] at hb
  exact ((hb.drewN nn).set_ 3 _).set_ 2 _
 clear hg0 Hbl Hc H0 F c3 c4 c3' c4' c1'
 generalize ((((W.alloc (.cells #[.int .i64 side, .int .i64 slot, .int .i64 0, .string { data := #[] }, .int .i64 0, .int .i64 0] 107)).drewN nn).setCell ⟨B, 3, none⟩ (.string ((t.get side).bat slot))).setCell ⟨B, 2, none⟩ (.int .i64 ((t.get side).at_ slot))) = W2 at F1 ⊢
 have c1 : W2.cell? ⟨g + 1, 0, none⟩ = some (.slice A k c) := by rw [F1.out.2.1.bl.cell]; rfl
 gi_wp2
 gi_loopw [23] (fun v wr => ∃ (i : Nat) (pre : List Sti) (now : Sti), i ≤ k ∧ v = .int .i64 i ∧ J pre wr ∧ Below n0 w0 wr ∧ Caps wr g t A k c p side slot ∧ Bk wr B 107 now.val ∧ stintsL t l p side slot = pre ++ stLoop p side slot now (l.drop i)) (fun v _ => k - (intOf v).toNat)
 case atStart => exact ⟨0, [], _, by omega, rfl, F1.out.2.2.2, F1.out.1, F1.out.2.1, F1.out.2.2.1, by simp [stintsL]⟩
 case round =>
  obtain ⟨i, pre, now, hik, rfl, hj, hb, hc, hbk, hst⟩ := hrel
  clear F1 c1
  have Hj := Lib.hid hj; have Hb := Lib.hid hb; have Hc := Lib.hid hc; have Hbk := Lib.hid hbk; have Hst := Lib.hid hst
  clear hj hb hc hbk hst
  by_cases hkn : i < k
  ·
   obtain ⟨b, off, rfl, hcc⟩ := Hl.out i (by rw [Hk.out]; exact hkn)
   have hb0 : b < n0 := by
    rw [← Hw0.out]
    exact World.block_lt_of_cell? w0 ⟨b, off + i * 5 + 0, none⟩ (u := .int .i64 (l.getD i ⟨0, 0, 0, .empty, 0⟩).side) (by rw [hcc 0 (by omega)]; rfl)
   have hcell : ∀ j, j < 5 → wr.cell? ⟨b, off + i * 5 + j, none⟩ = (l.getD i ⟨0, 0, 0, .empty, 0⟩).val[j]? := fun j hj => by
    rw [Hb.out.cell (p := ⟨b, off + i * 5 + j, none⟩) hb0]; exact hcc j hj
   have hdr : l.drop i = l.getD i ⟨0, 0, 0, .empty, 0⟩ :: l.drop (i + 1) := by
    have hkl : i < l.length := by rw [Hk.out]; exact hkn
    rw [List.drop_eq_getElem_cons hkl]
    simp [List.getD, List.getElem?_eq_getElem hkl]
   generalize hd : l.getD i ⟨0, 0, 0, .empty, 0⟩ = d at hcell hdr
   have Hdr := Lib.hid hdr; clear hd hdr hcc
   have c0 : wr.cell? ⟨b, off + i * 5, none⟩ = some (.int .i64 d.side) := hcell 0 (by omega)
   have c1 : wr.cell? ⟨b, off + i * 5 + 1, none⟩ = some (.int .i64 d.play) := hcell 1 (by omega)
   have c2 : wr.cell? ⟨b, off + i * 5 + 2, none⟩ = some (.int .i64 d.slot) := hcell 2 (by omega)
   have c3 : wr.cell? ⟨b, off + i * 5 + 3, none⟩ = some (.string d.name) := hcell 3 (by omega)
   have c4 : wr.cell? ⟨b, off + i * 5 + 4, none⟩ = some (.int .i64 d.pos) := hcell 4 (by omega)
   clear hcell
   have hBs := Hbk.out.lt
   have hga := World.grownBy_alloc wr (.cells #[.int .i64 d.side, .int .i64 d.play, .int .i64 d.slot, .string d.name, .int .i64 d.pos] 142) (some B)
   have F0 : Hid (Below n0 w0 (wr.alloc (.cells #[.int .i64 d.side, .int .i64 d.play, .int .i64 d.slot, .string d.name, .int .i64 d.pos] 142)) ∧ Caps (wr.alloc (.cells #[.int .i64 d.side, .int .i64 d.play, .int .i64 d.slot, .string d.name, .int .i64 d.pos] 142)) g t (some ⟨b, off, none⟩) k c p side slot ∧ Bk (wr.alloc (.cells #[.int .i64 d.side, .int .i64 d.play, .int .i64 d.slot, .string d.name, .int .i64 d.pos] 142)) B 107 now.val ∧ J pre (wr.alloc (.cells #[.int .i64 d.side, .int .i64 d.play, .int .i64 d.slot, .string d.name, .int .i64 d.pos] 142)) ∧ Bk (wr.alloc (.cells #[.int .i64 d.side, .int .i64 d.play, .int .i64 d.slot, .string d.name, .int .i64 d.pos] 142)) wr.heap.size 142 d.val ∧ B < wr.heap.size) :=
    ⟨Hb.out.grown hga (by have := Hb.out.size; omega) (fun r e => by have := Option.some.inj e; omega), Hc.out.grown hga (fun r e => by have := Option.some.inj e; omega), Hbk.out.alloc _, HJ.out _ _ _ Hj.out hga, Bk.new wr 142 #[.int .i64 d.side, .int .i64 d.play, .int .i64 d.slot, .string d.name, .int .i64 d.pos], hBs⟩
   clear hga
   gi_upto_region 5 with fail
   generalize (wr.alloc (.cells #[.int .i64 d.side, .int .i64 d.play, .int .i64 d.slot, .string d.name, .int .i64 d.pos] 142)) = W0 at F0 ⊢
   generalize wr.heap.size = bx at F0 hBs ⊢
   clear c0 c1 c2 c3 c4 Hb Hbk Hc Hj
   have x0 : W0.cell? ⟨bx, 0, none⟩ = some (.int .i64 d.side) := by rw [F0.out.2.2.2.2.1.cell]; rfl
   have x1 : W0.cell? ⟨bx, 1, none⟩ = some (.int .i64 d.play) := by rw [F0.out.2.2.2.2.1.cell]; rfl
   have x2 : W0.cell? ⟨bx, 2, none⟩ = some (.int .i64 d.slot) := by rw [F0.out.2.2.2.2.1.cell]; rfl
   have y3 : W0.cell? ⟨g + 3, 0, none⟩ = some (.int .i64 side) := by rw [F0.out.2.1.bs.cell]; rfl
   have y4 : W0.cell? ⟨g + 4, 0, none⟩ = some (.int .i64 slot) := by rw [F0.out.2.1.bo.cell]; rfl
   have y2 : W0.cell? ⟨g + 2, 0, none⟩ = some (.int .i64 p) := by rw [F0.out.2.1.bp.cell]; rfl
   by_cases hA : d.side ≠ side
   ·
    have ha : (d.side != side) = true := by simpa using hA
    have HA := Lib.hid hA; clear hA
    gi_wp2
    go_roundw
    case rel => exact ⟨i + 1, pre, now, by omega, by go_num, F0.out.2.2.2.1, F0.out.1, F0.out.2.1, F0.out.2.2.1, by rw [Hst.out, Hdr.out, stLoop_skip _ _ _ _ _ _ (.inl HA.out)]⟩
    case measure => simp [intOf]; omega
   ·
    have ha : (d.side != side) = false := by simpa using hA
    have HA := Lib.hid hA; clear hA
    by_cases hB : d.slot ≠ slot
    ·
     have hb : (d.slot != slot) = true := by simpa using hB
     have HB := Lib.hid hB; clear hB
     gi_wp2
     go_roundw
     case rel => exact ⟨i + 1, pre, now, by omega, by go_num, F0.out.2.2.2.1, F0.out.1, F0.out.2.1, F0.out.2.2.1, by rw [Hst.out, Hdr.out, stLoop_skip _ _ _ _ _ _ (.inr (.inl HB.out))]⟩
     case measure => simp [intOf]; omega
    ·
     have hb : (d.slot != slot) = false := by simpa using hB
     have HB := Lib.hid hB; clear hB
     by_cases hC : p ≤ d.play
     ·
      have HC := Lib.hid hC
      gi_wp2
      go_roundw
      case rel => exact ⟨i + 1, pre, now, by omega, by go_num, F0.out.2.2.2.1, F0.out.1, F0.out.2.1, F0.out.2.2.1, by rw [Hst.out, Hdr.out, stLoop_skip _ _ _ _ _ _ (.inr (.inr HC.out))]⟩
      case measure => simp [intOf]; omega
     ·
      have hst2 : stintsL t l p side slot = pre ++ ((if now.fr < d.play then [⟨now.side, now.slot, now.pos, now.name, now.fr, d.play⟩] else []) ++ stLoop p side slot ⟨side, slot, d.pos, d.name, d.play, 0⟩ (l.drop (i + 1))) := by
       rw [Hst.out, Hdr.out, stLoop_take _ _ _ _ _ _ (by
        rintro (h | h | h)
        ·
         exact HA.out h
        ·
         exact HB.out h
        ·
         exact hC h)]
      have Hst2 := Lib.hid hst2
      clear hst2
      have z5 : W0.cell? ⟨B, 5, none⟩ = some (.int .i64 now.to) := by rw [F0.out.2.2.1.cell]; rfl
      have w5 : W0.frozen? ⟨B, 5, none⟩ = false := F0.out.2.2.1.frozen 5
      have hg5 : W0.grownBy (W0.setCell ⟨B, 5, none⟩ (.int .i64 d.play)) (some B) := only_set (World.grownBy.refl W0 (some B)) 5 _
      have F3 : Hid (Below n0 w0 (W0.setCell ⟨B, 5, none⟩ (.int .i64 d.play)) ∧ Caps (W0.setCell ⟨B, 5, none⟩ (.int .i64 d.play)) g t (some ⟨b, off, none⟩) k c p side slot ∧ Bk (W0.setCell ⟨B, 5, none⟩ (.int .i64 d.play)) B 107 (Sti.val ⟨now.side, now.slot, now.pos, now.name, now.fr, d.play⟩) ∧ J pre (W0.setCell ⟨B, 5, none⟩ (.int .i64 d.play)) ∧ Bk (W0.setCell ⟨B, 5, none⟩ (.int .i64 d.play)) bx 142 d.val) :=
       ⟨F0.out.1.grown hg5 (by have := F0.out.2.2.1.lt; omega) (fun r e => by have := Option.some.inj e; omega), F0.out.2.1.grown hg5 (fun r e => by have := Option.some.inj e; omega), F0.out.2.2.1.set_ 5 _, HJ.out _ _ _ F0.out.2.2.2.1 hg5, F0.out.2.2.2.2.1.far (p := ⟨B, 5, none⟩) (by show bx ≠ B; omega) _⟩
      clear hg5
      gi_upto_region 7 with fail
      generalize (W0.setCell ⟨B, 5, none⟩ (.int .i64 d.play)) = W3 at F3 ⊢
      clear F0 x0 x1 x2 y2 y3 y4 z5 w5
      have z0 : W3.cell? ⟨B, 0, none⟩ = some (.int .i64 now.side) := by rw [F3.out.2.2.1.cell]; rfl
      have z1 : W3.cell? ⟨B, 1, none⟩ = some (.int .i64 now.slot) := by rw [F3.out.2.2.1.cell]; rfl
      have z2 : W3.cell? ⟨B, 2, none⟩ = some (.int .i64 now.pos) := by rw [F3.out.2.2.1.cell]; rfl
      have z3 : W3.cell? ⟨B, 3, none⟩ = some (.string now.name) := by rw [F3.out.2.2.1.cell]; rfl
      have z4 : W3.cell? ⟨B, 4, none⟩ = some (.int .i64 now.fr) := by rw [F3.out.2.2.1.cell]; rfl
      have z5 : W3.cell? ⟨B, 5, none⟩ = some (.int .i64 d.play) := by rw [F3.out.2.2.1.cell]; rfl
      have hn2 : 1 ≤ n - 1 + 1 := by omega
      gi_cut [56] from 77 (fun s56 wx => s56 = .bool false ∧ ∃ pre' : List Sti, J pre' wx ∧ Below n0 w0 wx ∧ Caps wx g t (some ⟨b, off, none⟩) k c p side slot ∧ Bk wx B 107 (Sti.val ⟨now.side, now.slot, now.pos, now.name, now.fr, d.play⟩) ∧ Bk wx bx 142 d.val ∧ stintsL t l p side slot = pre' ++ stLoop p side slot ⟨side, slot, d.pos, d.name, d.play, 0⟩ (l.drop (i + 1)))
      case first =>
       by_cases hlt : now.fr < d.play
       ·
        obtain ⟨fn, tmps, assign, body, hy, hR⟩ := HY.out pre ⟨now.side, now.slot, now.pos, now.name, now.fr, d.play⟩ W3 F3.out.2.2.2.1 (by rw [Hst2.out, if_pos hlt]; simp) F3.out.2.2.1.lt
        have Hlt := Lib.hid hlt
        dsimp only [L.Sti.val] at hy
        gi_wp2
        refine hR.mono ?_
        rintro e W4 ⟨rfl, hJ4, hkp⟩
        gi_wp2
        gi_meet
        case rel =>
         refine ⟨rfl, pre ++ [⟨now.side, now.slot, now.pos, now.name, now.fr, d.play⟩], hJ4, F3.out.1.trans hkp.1, F3.out.2.1.kept (fun b h1 h2 => hkp.2.2.1 b h1 (.inl h2)), (hkp.2.2.1 B (by omega) (.inr rfl)).trans F3.out.2.2.1, hkp.2.2.2 _ _ F3.out.2.2.2.2, ?_⟩
         rw [Hst2.out, if_pos Hlt.out]; simp
       ·
        have Hlt := Lib.hid hlt
        gi_wp2
        refine ⟨fun _ h => (by cases h), ?_⟩
        gi_wp2
        gi_meet
        case rel =>
         refine ⟨rfl, pre, F3.out.2.2.2.1, F3.out.1, F3.out.2.1, F3.out.2.2.1, F3.out.2.2.2.2, ?_⟩
         rw [Hst2.out, if_neg (by have := Hlt.out; omega)]; simp
      case rest =>
       obtain ⟨h56, pre', hj, hb, hc, hbk, hbx, hst⟩ := hcut
       subst h56
       clear F3 Hst2 z0 z1 z2 z3 z4 z5
       have Hj := Lib.hid hj; have Hb := Lib.hid hb; have Hc := Lib.hid hc; have Hbk := Lib.hid hbk; have Hbx := Lib.hid hbx; have Hst2 := Lib.hid hst
       clear hj hb hc hbk hbx hst
       have x1 : wc.cell? ⟨bx, 1, none⟩ = some (.int .i64 d.play) := by rw [Hbx.out.cell]; rfl
       have x3 : wc.cell? ⟨bx, 3, none⟩ = some (.string d.name) := by rw [Hbx.out.cell]; rfl
       have x4 : wc.cell? ⟨bx, 4, none⟩ = some (.int .i64 d.pos) := by rw [Hbx.out.cell]; rfl
       have y3 : wc.cell? ⟨g + 3, 0, none⟩ = some (.int .i64 side) := by rw [Hc.out.bs.cell]; rfl
       have y4 : wc.cell? ⟨g + 4, 0, none⟩ = some (.int .i64 slot) := by rw [Hc.out.bo.cell]; rfl
       have z0 : wc.cell? ⟨B, 0, none⟩ = some (.int .i64 now.side) := by rw [Hbk.out.cell]; rfl
       have z1 : wc.cell? ⟨B, 1, none⟩ = some (.int .i64 now.slot) := by rw [Hbk.out.cell]; rfl
       have z2 : wc.cell? ⟨B, 2, none⟩ = some (.int .i64 now.pos) := by rw [Hbk.out.cell]; rfl
       have z3 : wc.cell? ⟨B, 3, none⟩ = some (.string now.name) := by rw [Hbk.out.cell]; rfl
       have z4 : wc.cell? ⟨B, 4, none⟩ = some (.int .i64 now.fr) := by rw [Hbk.out.cell]; rfl
       have z5 : wc.cell? ⟨B, 5, none⟩ = some (.int .i64 d.play) := by rw [Hbk.out.cell]; rfl
       have f0 := Hbk.out.frozen 0
       have f1 := Hbk.out.frozen 1
       have f2 := Hbk.out.frozen 2
       have f3 := Hbk.out.frozen 3
       have f4 := Hbk.out.frozen 4
       have f5 := Hbk.out.frozen 5
       gi_upto_region 9 with fail
       have hg9 : wc.grownBy ((((((wc.setCell ⟨B, 0, none⟩ (.int .i64 side)).setCell ⟨B, 1, none⟩ (.int .i64 slot)).setCell ⟨B, 2, none⟩ (.int .i64 d.pos)).setCell ⟨B, 3, none⟩ (.string d.name)).setCell ⟨B, 4, none⟩ (.int .i64 d.play)).setCell ⟨B, 5, none⟩ (.int .i64 0)) (some B) := only_set (only_set (only_set (only_set (only_set (only_set (World.grownBy.refl wc (some B)) 0 _) 1 _) 2 _) 3 _) 4 _) 5 _
       have F9 : Hid (Below n0 w0 ((((((wc.setCell ⟨B, 0, none⟩ (.int .i64 side)).setCell ⟨B, 1, none⟩ (.int .i64 slot)).setCell ⟨B, 2, none⟩ (.int .i64 d.pos)).setCell ⟨B, 3, none⟩ (.string d.name)).setCell ⟨B, 4, none⟩ (.int .i64 d.play)).setCell ⟨B, 5, none⟩ (.int .i64 0)) ∧ Caps ((((((wc.setCell ⟨B, 0, none⟩ (.int .i64 side)).setCell ⟨B, 1, none⟩ (.int .i64 slot)).setCell ⟨B, 2, none⟩ (.int .i64 d.pos)).setCell ⟨B, 3, none⟩ (.string d.name)).setCell ⟨B, 4, none⟩ (.int .i64 d.play)).setCell ⟨B, 5, none⟩ (.int .i64 0)) g t (some ⟨b, off, none⟩) k c p side slot ∧ Bk ((((((wc.setCell ⟨B, 0, none⟩ (.int .i64 side)).setCell ⟨B, 1, none⟩ (.int .i64 slot)).setCell ⟨B, 2, none⟩ (.int .i64 d.pos)).setCell ⟨B, 3, none⟩ (.string d.name)).setCell ⟨B, 4, none⟩ (.int .i64 d.play)).setCell ⟨B, 5, none⟩ (.int .i64 0)) B 107 (Sti.val ⟨side, slot, d.pos, d.name, d.play, 0⟩) ∧ J pre' ((((((wc.setCell ⟨B, 0, none⟩ (.int .i64 side)).setCell ⟨B, 1, none⟩ (.int .i64 slot)).setCell ⟨B, 2, none⟩ (.int .i64 d.pos)).setCell ⟨B, 3, none⟩ (.string d.name)).setCell ⟨B, 4, none⟩ (.int .i64 d.play)).setCell ⟨B, 5, none⟩ (.int .i64 0))) :=
        ⟨Hb.out.grown hg9 (by have := Hbk.out.lt; omega) (fun r e => by have := Option.some.inj e; omega), Hc.out.grown hg9 (fun r e => by have := Option.some.inj e; omega), ((((((Hbk.out.set_ 0 _).set_ 1 _).set_ 2 _).set_ 3 _).set_ 4 _).set_ 5 _), HJ.out _ _ _ Hj.out hg9⟩
       clear hg9 Hb Hc Hbk Hj Hbx x1 x3 x4 y3 y4 z0 z1 z2 z3 z4 z5 f0 f1 f2 f3 f4 f5
       generalize ((((((wc.setCell ⟨B, 0, none⟩ (.int .i64 side)).setCell ⟨B, 1, none⟩ (.int .i64 slot)).setCell ⟨B, 2, none⟩ (.int .i64 d.pos)).setCell ⟨B, 3, none⟩ (.string d.name)).setCell ⟨B, 4, none⟩ (.int .i64 d.play)).setCell ⟨B, 5, none⟩ (.int .i64 0)) = W9 at F9 ⊢
       gi_wp2
       go_roundw
       case rel => exact ⟨i + 1, pre', _, by omega, by go_num, F9.out.2.2.2, F9.out.1, F9.out.2.1, F9.out.2.2.1, Hst2.out⟩
       case measure => simp [intOf]; omega
  ·
   obtain rfl : i = k := by omega
   obtain ⟨wo, hwo⟩ : ∃ wo : World, wo = wr := ⟨_, rfl⟩
   rw [← hwo] at Hb Hbk Hc Hj ⊢
   clear hwo
   have hst2 : stintsL t l p side slot = pre ++ (if now.fr < p then [⟨now.side, now.slot, now.pos, now.name, now.fr, p⟩] else []) := by
    rw [Hst.out, List.drop_of_length_le (by rw [Hk.out]; exact Nat.le_refl _), stLoop]
   have Hst2 := Lib.hid hst2; clear hst2
   have y2 : wo.cell? ⟨g + 2, 0, none⟩ = some (.int .i64 p) := by rw [Hc.out.bp.cell]; rfl
   have z5 : wo.cell? ⟨B, 5, none⟩ = some (.int .i64 now.to) := by rw [Hbk.out.cell]; rfl
   have w5 : wo.frozen? ⟨B, 5, none⟩ = false := Hbk.out.frozen 5
   have hg5 : wo.grownBy (wo.setCell ⟨B, 5, none⟩ (.int .i64 p)) (some B) := only_set (World.grownBy.refl wo (some B)) 5 _
   have F3 : Hid (Bk (wo.setCell ⟨B, 5, none⟩ (.int .i64 p)) B 107 (Sti.val ⟨now.side, now.slot, now.pos, now.name, now.fr, p⟩) ∧ J pre (wo.setCell ⟨B, 5, none⟩ (.int .i64 p))) :=
    ⟨Hbk.out.set_ 5 _, HJ.out _ _ _ Hj.out hg5⟩
   clear hg5
   gi_upto_region 11 with fail
   generalize (wo.setCell ⟨B, 5, none⟩ (.int .i64 p)) = W3 at F3 ⊢
   clear y2 z5 w5 Hb Hbk Hc Hj
   have z0 : W3.cell? ⟨B, 0, none⟩ = some (.int .i64 now.side) := by rw [F3.out.1.cell]; rfl
   have z1 : W3.cell? ⟨B, 1, none⟩ = some (.int .i64 now.slot) := by rw [F3.out.1.cell]; rfl
   have z2 : W3.cell? ⟨B, 2, none⟩ = some (.int .i64 now.pos) := by rw [F3.out.1.cell]; rfl
   have z3 : W3.cell? ⟨B, 3, none⟩ = some (.string now.name) := by rw [F3.out.1.cell]; rfl
   have z4 : W3.cell? ⟨B, 4, none⟩ = some (.int .i64 now.fr) := by rw [F3.out.1.cell]; rfl
   have z5 : W3.cell? ⟨B, 5, none⟩ = some (.int .i64 p) := by rw [F3.out.1.cell]; rfl
   by_cases hlt : now.fr < p
   ·
    obtain ⟨fn, tmps, assign, body, hy, hR⟩ := HY.out pre ⟨now.side, now.slot, now.pos, now.name, now.fr, p⟩ W3 F3.out.2 (by rw [Hst2.out, if_pos hlt]; simp) F3.out.1.lt
    have Hlt := Lib.hid hlt
    dsimp only [L.Sti.val] at hy
    gi_wp2
    refine hR.mono ?_
    rintro e W4 ⟨rfl, hJ4, hkp⟩
    gi_wp2
    go_end0
    rw [Hst2.out, if_pos Hlt.out]
    exact ⟨⟨_, rfl⟩, hJ4⟩
   ·
    have Hlt := Lib.hid hlt
    gi_wp2
    go_end0
    rw [Hst2.out, if_neg (by have := Hlt.out; omega), List.append_nil]
    exact ⟨⟨_, rfl⟩, F3.out.2⟩
end Go.Proofs.YtmagppkclnebjaaGreatDoor

set_option linter.unusedSimpArgs false
namespace Go.Proofs.YtmagppkclnebjaaGreatDoor
open Go.RowKit Go.Shelf
open L
attribute [local go_sem] Oper.semAt_some

/-- append onto a row of the call's own, in a fence, and where the new row lies -/
theorem wpListIn_append_at {F : Fence} {n : Nat} {P : Program} (w : World) {ops : Array Oper} {rest : List Oper} {o : Oper} {a : Act} {Q : Exit → Act → World → Prop}
 (hg : o.guard = none) (s x : Operand) (t : TypeId) (hop : o.op = Op.call { callee := Callee.builtin Builtin.append, args := #[s, x], argTypes := #[t, t] })
 (base : Nat) (e : TypeId) (i : TypeInfo) (z : Value) (size bytes : Nat) (h1 : P.underlying t = some (.slice e)) (h2 : P.info? e = some i) (h3 : i.zero = some z) (h4 : i.size = size) (h5 : i.bytes = bytes) (h6 : z.cells.size = size) (h7 : 0 < size)
 (v : Value) (k : Nat) (xs : List Value) (hs : a.eval s = v) (hown : w.ownsRow base e size v k xs) (ad : Addr) (m c : Nat) (news : List Value) (hx : a.eval x = .slice (some ad) m c) (hn : news.length = m * size)
 (hc : ∀ j u, news[j]? = some u → w.cell? (ad.add j) = some u) (h1c : ∀ u ∈ news, u.oneCell' = true) (b1 : k + m ≤ maxLen) (b2 : (k + m) * bytes ≤ 140737488355328) (b3 : base ≤ w.heap.size)
 (hK : ∀ v' w', w'.ownsRow base e size v' (k + m) (xs ++ news) → w.grownBy w' v.ownBlock → (v'.ownBlock = v.ownBlock ∨ v'.ownBlock = some w.heap.size) → wpListIn F n P ops Q rest (a.put o.dst v') w') :
 wpListIn F n P ops Q (o :: rest) a w := by
 refine wpListIn_plain hg fun K hK' => ?_
 obtain ⟨v', w', hrun, r1, r2, _, r4⟩ := run_append_own_at (P := P) w base t o.type e i z size bytes h1 h2 h3 h4 h5 h6 h7 v k xs hown ad m c news hn hc h1c b1 b2 b3
 unfold Oper.wpIn
 refine ⟨?_, ?_⟩
 ·
  simp [Oper.about, hop, resolve, Target.leads, Sem.run_pure]
 ·
  rw [Oper.semAt_plain F _ _ (by rw [hop]; intro c hc'; cases hc')]
  simp [execOp, hop, resolve, invoke, builtin, hs, hx, hrun, Result.andThen]
  exact hK' _ _ (hK v' w' r1 r2 r4)

def flatS (S : List Sti) : List Value := S.flatMap fun s => s.val.toList
theorem flatS_append (S R : List Sti) : flatS (S ++ R) = flatS S ++ flatS R := by simp [flatS]
theorem flatS_one (x : Sti) : flatS [x] = x.val.toList := by simp [flatS]
theorem flatS_len : ∀ S : List Sti, (flatS S).length = S.length * 6
 | [] => rfl
 | s :: r => by
  have := flatS_len r
  simp only [flatS, List.flatMap_cons, List.length_append, List.length_cons] at this ⊢
  rw [this]; simp [L.Sti.val]; omega
theorem stLoop_len (n side slot : Int) : ∀ (r : List Chg) (now : Sti), (stLoop n side slot now r).length ≤ r.length + 1
 | [], now => by unfold stLoop; split <;> simp
 | d :: r, now => by
  unfold stLoop
  split
  ·
   have := stLoop_len n side slot r now
   simp only [List.length_cons]; omega
  ·
   have := stLoop_len n side slot r ⟨side, slot, d.pos, d.name, d.play, 0⟩
   simp only [List.length_append, List.length_cons]
   split <;> simp <;> omega
theorem sideL_len (t : Tms) (l : List Chg) (n side : Int) : ∀ k : Nat, (sideL t l n side k).length ≤ k * (l.length + 1)
 | 0 => by simp [sideL]
 | k + 1 => by
  have h1 := sideL_len t l n side k
  have h2 : (stintsL t l n side ((k : Int) + 1)).length ≤ l.length + 1 := stLoop_len _ _ _ _ _
  rw [sideL_succ, List.length_append, Nat.add_mul]; omega
/-- the stints of the first d sides -/
def sidesL (t : Tms) (l : List Chg) (n : Int) (d : Nat) : List Sti := (List.range d).flatMap fun (s : Nat) => sideL t l n s 9
theorem sidesL_succ (t : Tms) (l : List Chg) (n : Int) (d : Nat) : sidesL t l n (d + 1) = sidesL t l n d ++ sideL t l n d 9 := by simp [sidesL, List.range_succ]
theorem sidesL_two (t : Tms) (l : List Chg) (n : Int) : sidesL t l n 2 = allL t l n := by simp [sidesL, List.range_succ, allL]
theorem sidesL_len (t : Tms) (l : List Chg) (n : Int) (d : Nat) : (sidesL t l n d).length ≤ d * (9 * (l.length + 1)) := by
 induction d with
 | zero => simp [sidesL]
 | succ d ih =>
  have := sideL_len t l n d 9
  rw [sidesL_succ, List.length_append, Nat.add_mul]; omega

/-- the marks of loops over iterators that lie behind: blocks from lo on, below b -/
def Marks (lo b : Nat) (W : World) : List Deferred → Prop
 | [] => True
 | d :: r => (∃ D, lo ≤ D ∧ D < b ∧ d = { target := .collected D, args := #[] } ∧ W.heap[D]? = some (.deferred (some []))) ∧ (∀ d' ∈ r, d' ≠ d) ∧ Marks lo b W r
theorem Marks.kept' {lo b b' : Nat} {W W' : World} (hb : b ≤ b') : ∀ {ds : List Deferred}, Marks lo b W ds → (∀ D, { target := .collected D, args := #[] } ∈ ds → W.heap[D]? = some (.deferred (some [])) → W'.heap[D]? = some (.deferred (some []))) → Marks lo b' W' ds
 | [], _, _ => trivial
 | _ :: _, ⟨⟨D, h1, h2, h3, h4⟩, h5, h6⟩, hk => ⟨⟨D, h1, by omega, h3, hk D (by rw [h3]; simp) h4⟩, h5, Marks.kept' hb h6 (fun D' hm hd => hk D' (List.mem_cons_of_mem _ hm) hd)⟩
theorem Marks.kept {lo b b' : Nat} {W W' : World} (hb : b ≤ b') : ∀ {ds : List Deferred}, Marks lo b W ds → (∀ D, lo ≤ D → D < b → W.heap[D]? = some (.deferred (some [])) → W'.heap[D]? = some (.deferred (some []))) → Marks lo b' W' ds
 | [], _, _ => trivial
 | _ :: _, ⟨⟨D, h1, h2, h3, h4⟩, h5, h6⟩, hk => ⟨⟨D, h1, by omega, h3, hk D h1 h2 h4⟩, h5, Marks.kept hb h6 hk⟩
theorem Marks.mem {lo b : Nat} {W : World} : ∀ {ds : List Deferred}, Marks lo b W ds → ∀ d ∈ ds, ∃ D, D < b ∧ d = { target := .collected D, args := #[] }
 | [], _, _, h => by cases h
 | e :: r, ⟨⟨D, _, h2, h3, _⟩, _, h6⟩, d, h => by
  rcases List.mem_cons.1 h with rfl | h
  ·
   exact ⟨D, h2, h3⟩
  ·
   exact Marks.mem h6 d h
theorem Marks.push {lo b D : Nat} {W : World} {ds : List Deferred} (h : Marks lo b W ds) (hlo : lo ≤ D) (hD : b ≤ D) (hk : W.heap[D]? = some (.deferred (some []))) : Marks lo (D + 1) W ({ target := .collected D, args := #[] } :: ds) := by
 refine ⟨⟨D, hlo, by omega, rfl, hk⟩, fun d' hd' e => ?_, h.kept (by omega) (fun _ _ _ h => h)⟩
 obtain ⟨D', h1, h2⟩ := h.mem d' hd'
 rw [h2] at e
 injection e with e
 injection e with e
 omega
/-- a function whose activation holds marks leaves as one without them, where what is to be shown abides the marks' taking -/
theorem leaves_marks {F : Fence} {n : Nat} {P : Program} {fn : Func} {tmps : Array Value} {R : Ending → World → Prop} {lo b : Nat} (P0 : World → Prop)
 (hput : ∀ W D, P0 W → lo ≤ D → W.heap[D]? = some (.deferred (some [])) → P0 (W.putObj D (.deferred none))) (hend : ∀ W, P0 W → LeavesIn F n P fn tmps R [] .returning W) :
 ∀ (ds : List Deferred) (W : World), Marks lo b W ds → P0 W → LeavesInM F n P fn tmps R ds .returning W
 | [], W, _, h => hend W h
 | d :: r, W, ⟨⟨D, h1, h2, h3, h4⟩, h5, h6⟩, h => by
  refine ⟨by simp, .inl ⟨D, _, by rw [h3], run_takeDeferred h4, ?_⟩⟩
  refine leaves_marks P0 hput hend r _ (h6.kept' (Nat.le_refl _) ?_) (hput W D h h1 h4)
  intro D' hm hk
  by_cases e : D' = D
  ·
   exact absurd (by rw [e, ← h3]) (h5 _ hm)
  ·
   rw [World.putObj_heap_other e]; exact hk

theorem wpListIn_load_row {F : Fence} {n : Nat} {P : Program} {ops : Array Oper} {rest : List Oper} {o : Oper} {a : Act} {w : World} {Q : Exit → Act → World → Prop} (hgd : o.guard = none) (ty : TypeId) (x : Operand) (ho : o.op = .load ty x)
 (g : Nat) (hx : a.eval x = .pointer (some ⟨g, 0, none⟩)) (t : TypeId) (cs : Array Value) (fr : Nat × Nat) (d : TypeDesc) (hg : w.heap[g]? = some (.cells cs t fr))
 (hu : P.underlying ty = some d) (hd : (match d with | .struct _ | .array _ _ => true | _ => false) = true) (hi : (P.info? ty).map (·.size) = some cs.size)
 (h : wpListIn F n P ops Q rest (a.put o.dst (.agg cs)) w) : wpListIn F n P ops Q (o :: rest) a w := by
 refine wpListIn_plain hgd fun K hK' => ?_
 unfold Oper.wpIn
 refine ⟨?_, ?_⟩
 ·
  simp [Oper.about, ho]
 ·
  rw [Oper.semAt_plain F _ _ (by rw [ho]; intro c hc'; cases hc')]
  simp only [execOp, ho, hx, Instr.loadAt, Instr.sureAddr, Sem.run_bind, Sem.run_pure, Result.andThen_ok, run_loadVar_row w g t ty cs fr d hg hu hd hi]
  exact hK' _ _ h
theorem info107 : (Tryz.prog.info? 107).map (fun i => (i.zero, i.size, i.bytes)) = some (some (.agg #[.int .i64 0, .int .i64 0, .int .i64 0, .string { data := #[] }, .int .i64 0, .int .i64 0]), 6, 56) := by kernel_rfl

/-- what holds between two statements: h: where the call began -/
structure StA (w : World) (t : Tms) (W : World) (S : List Sti) (v : Value) (ds : List Deferred) : Prop where
 below : Below w.heap.size w W
 bt : Bk W w.heap.size 54 t.cells.toArray
 bo : Bk W (w.heap.size + 1) 86 #[v]
 own : W.ownsRow (w.heap.size + 2) 107 6 v S.length (flatS S)
 marks : Marks (w.heap.size + 2) W.heap.size W ds

/-- what holds between two rounds of the loop over the iterator: g: where its variables lie -/
def IA (w : World) (t : Tms) (g : Nat) (S0 : List Sti) (ds : List Deferred) (pre : List Sti) (X : World) : Prop :=
 ∃ v : Value, Below w.heap.size w X ∧ Bk X w.heap.size 54 t.cells.toArray ∧ Bk X (w.heap.size + 1) 86 #[v] ∧ X.ownsRow (w.heap.size + 2) 107 6 v (S0 ++ pre).length (flatS (S0 ++ pre)) ∧
  (∀ r, v.ownBlock = some r → r < g ∨ g + 7 < r) ∧ Marks (w.heap.size + 2) g X ds
theorem IA.grown {w : World} {t : Tms} {g : Nat} {S0 pre : List Sti} {ds : List Deferred} {X Y : World} {row : Option Nat} (hh : w.heap.size + 2 ≤ g) (h : IA w t g S0 ds pre X) (hg : X.grownBy Y row) (hr : ∀ r, row = some r → g ≤ r ∧ r ≤ g + 7) : IA w t g S0 ds pre Y := by
 obtain ⟨v, h1, h2, h3, h4, h5, h6⟩ := h
 have l3 := h3.lt
 refine ⟨v, h1.grown hg (by omega) (fun r e => by have := hr r e; omega), (hg.block _ (by omega) (fun e => by have := hr _ e.symm; omega)).trans h2, (hg.block _ l3 (fun e => by have := hr _ e.symm; omega)).trans h3, ?_, h5, ?_⟩
 ·
  refine h4.kept hg ?_
  cases hv : v.ownBlock with
  | none => exact .inl rfl
  | some r =>
   refine .inr fun e => ?_
   have a1 := hr r e.symm
   have a2 := h5 r hv
   omega
 ·
  refine h6.kept (Nat.le_refl _) fun D hl hb hD => (hg.block D (Array.getElem?_eq_some_iff.1 hD).1 (fun e => by have := hr _ e.symm; omega)).trans hD
/-- a store behind an append: what else lay lies -/
theorem same_behind {X w1 : World} {o : Obj} {v u : Value} {b ob : Nat} (hg : (X.alloc o).grownBy w1 v.ownBlock) {q : Obj} (hb : X.heap[b]? = some q) (h1 : b ≠ ob) (h2 : v.ownBlock ≠ some b) : (w1.setCell ⟨ob, 0, none⟩ u).heap[b]? = some q := by
 have hlt : b < X.heap.size := (Array.getElem?_eq_some_iff.1 hb).1
 rw [Below.heap_setCell w1 ⟨ob, 0, none⟩ u b h1, hg.block b (by rw [World.size_alloc]; omega) (fun e => h2 e.symm), Below.heap_alloc X o b hlt]
 exact hb
theorem row_is {W : World} {base : Nat} {e : TypeId} {size n : Nat} {v : Value} {xs : List Value} (h : W.ownsRow base e size v n xs) {b : Nat} (hb : v.ownBlock = some b) : ∃ cs, W.heap[b]? = some (.cells cs e (0, 0)) := by
 rcases h.2 with ⟨rfl, _⟩ | ⟨g, cap, cur, rfl, _, hg, _⟩
 ·
  cases hb
 ·
  have : g = b := by simpa [Value.ownBlock] using hb
  subst this
  exact ⟨_, hg⟩
theorem KpS.trans {n0 g B : Nat} {X Y Z : World} (h : KpS n0 g B X Y) (k : KpS n0 g B Y Z) : KpS n0 g B X Z :=
 ⟨h.1.trans k.1, Nat.le_trans h.2.1 k.2.1, fun b h1 h2 => (k.2.2.1 b h1 h2).trans (h.2.2.1 b h1 h2), fun b cs hb => k.2.2.2 b cs (h.2.2.2 b cs hb)⟩

set_option maxHeartbeats 8000000 in
set_option maxRecDepth 100000 in
theorem all_any (t : Tms) (ht : t.ok) (T : Array Value) (hT : T = t.cells.toArray) (l : List Chg) (A : Option Addr) (k c : Nat) (hk : l.length = k) (hle : k ≤ 64) (p : Int) (w : World) (hl : RdC w A l) :
 Calls Tryz.prog 98 #[.agg T, .slice A k c, .int .i64 p] w fun x w' => (∃ v, x = .returned v ∧ w'.ownsRow w.heap.size 107 6 v (allL t l p).length (flatS (allL t l p))) ∧ Below w.heap.size w w' := by
 obtain ⟨i0, hi, hz0, hz1, hz2⟩ := info_parts info107
 have F : Hid (StA w t ((w.alloc (.cells T 54)).alloc (.cells #[.slice none 0 0] 86)) [] (.slice none 0 0) []) := by
  refine ⟨bt_alloc (bt_new w _) _, by rw [← hT]; exact (Bk.new w 54 T).alloc _, ?_, World.ownsRow_nil _ _ _ _, trivial⟩
  have := Bk.new (w.alloc (.cells T 54)) 86 #[.slice none 0 0]
  rwa [World.size_alloc] at this
 have Hl := Lib.hid hl; have Hk := Lib.hid hk; have Ht := Lib.hid ht
 have Hi := Lib.hid (info54s t.cells.toArray.size (Tms.size36 t ht))
 clear hl hk ht hT
 refine (callsIn_wide (n := 5)).1 ?_
 refine callsIn_of_wp_marks Tryz.func98 rfl trivial ?_ rfl
 simp only [Tryz.ntmps98, List.size_toArray, List.length_cons, List.length_nil, Nat.reduceAdd, Nat.reduceSub, Array.replicate_succ, Array.replicate_zero, List.push_toArray, List.append_toArray, List.nil_append, List.cons_append]
 gi_upto_region 2 with fail
 generalize ((w.alloc (.cells T 54)).alloc (.cells #[.slice none 0 0] 86)) = W1 at F ⊢
 gi_wp2
 refine wpIn_loop (fun a' W' => ∃ (d : Nat) (S : List Sti) (v : Value) (ds : List Deferred) (u8 u9 u12 u13 u14 u15 u16 u17 u18 u19 u20 u21 u22 u23 u29 : Value), d ≤ 2 ∧ S = sidesL t l p d ∧ StA w t W' S v ds ∧
  a' = { tmps := #[.agg T, .slice A k c, .int .i64 p, .pointer (some ⟨w.heap.size, 0, none⟩), undef, undef, .slice none 0 0, .pointer (some ⟨w.heap.size + 1, 0, none⟩), u8, u9, undef, .int .i64 d, u12, u13, u14, u15, u16, u17, u18, u19, u20, u21, u22, u23, undef, undef, undef, undef, undef, u29, undef], defers := ds })
  (fun a' _ => 2 - (intOf (a'.tmps.getD 11 undef)).toNat) ?_ ?_
 ·
  exact ⟨0, [], _, [], _, _, _, _, _, _, _, _, _, _, _, _, _, _, _, by omega, by simp [sidesL], F.out, rfl⟩
 ·
  rintro a' W' ⟨d, S, v, ds, u8, u9, u12, u13, u14, u15, u16, u17, u18, u19, u20, u21, u22, u23, u29, hd, hS, hst, rfl⟩
  clear F
  have Hst := Lib.hid hst; have HS := Lib.hid hS; clear hst hS
  by_cases hd2 : d < 2
  ·
   gi_upto_region 6 with fail
   have hd0 : (d : Int) = 0 ∨ (d : Int) = 1 := by omega
   refine wpIn_loop (fun a' W' => ∃ (j : Nat) (S : List Sti) (v : Value) (ds : List Deferred) (u12 u14 u15 u16 u17 u18 u19 u20 u21 u22 u23 : Value), j ≤ 9 ∧ S = sidesL t l p d ++ sideL t l p d j ∧ StA w t W' S v ds ∧
    a' = { tmps := #[.agg T, .slice A k c, .int .i64 p, .pointer (some ⟨w.heap.size, 0, none⟩), undef, undef, .slice none 0 0, .pointer (some ⟨w.heap.size + 1, 0, none⟩), .int .i64 d, .int .i64 ((j : Int) + 1), undef, .int .i64 d, u12, .int .i64 d, u14, u15, u16, u17, u18, u19, u20, u21, u22, u23, undef, undef, undef, undef, undef, u29, undef], defers := ds })
    (fun a' _ => 10 - (intOf (a'.tmps.getD 9 undef)).toNat) ?_ ?_
   ·
    exact ⟨0, S, v, ds, _, _, _, _, _, _, _, _, _, _, _, by omega, by rw [HS.out]; simp [sideL], Hst.out, rfl⟩
   ·
    clear Hst HS
    rintro a' W' ⟨j, S, v, ds, u12, u14, u15, u16, u17, u18, u19, u20, u21, u22, u23, hj, hS, hst, rfl⟩
    have Hst := Lib.hid hst; have HS := Lib.hid hS; clear hst hS
    by_cases hj9 : j < 9
    ·
     gi_wp2_with (first
      | (refine wpListIn_load_row rfl 54 _ rfl w.heap.size rfl 54 t.cells.toArray (0, 0) _ Hst.out.bt Tryz.underlying54 rfl Hi.out ?_)
      | (refine ⟨trivial, ?_⟩; gi_at_call 132; refine (callsIn_wide.2 (stints_any _ _ _ _ _ _ _ _)).mono ?_; rintro e w2 ⟨rfl, rfl⟩)
      | (gi_at_call 132; refine (callsIn_wide.2 (stints_any _ _ _ _ _ _ _ _)).mono ?_; rintro e w2 ⟨rfl, rfl⟩))
     have hsz : (((((W'.alloc (.cells t.cells.toArray 54)).alloc (.cells #[.slice A k c] 56)).alloc (.cells #[.int .i64 p] 3)).alloc (.cells #[.int .i64 d] 3)).alloc (.cells #[.int .i64 ((j : Int) + 1)] 3)).heap.size = W'.heap.size + 5 := by simp
     have hbe : Below W'.heap.size W' (((((W'.alloc (.cells t.cells.toArray 54)).alloc (.cells #[.slice A k c] 56)).alloc (.cells #[.int .i64 p] 3)).alloc (.cells #[.int .i64 d] 3)).alloc (.cells #[.int .i64 ((j : Int) + 1)] 3)) := bt_alloc (bt_alloc (bt_alloc (bt_alloc (bt_new W' _) _) _) _) _
     have hcp : Caps (((((W'.alloc (.cells t.cells.toArray 54)).alloc (.cells #[.slice A k c] 56)).alloc (.cells #[.int .i64 p] 3)).alloc (.cells #[.int .i64 d] 3)).alloc (.cells #[.int .i64 ((j : Int) + 1)] 3)) W'.heap.size t A k c p d ((j : Int) + 1) := by
      refine ⟨((((Bk.new W' 54 t.cells.toArray).alloc _).alloc _).alloc _).alloc _, ?_, ?_, ?_, ?_⟩
      ·
       have := Bk.new (W'.alloc (.cells t.cells.toArray 54)) 56 #[.slice A k c]
       rw [World.size_alloc] at this
       exact ((this.alloc _).alloc _).alloc _
      ·
       have := Bk.new ((W'.alloc (.cells t.cells.toArray 54)).alloc (.cells #[.slice A k c] 56)) 3 #[.int .i64 p]
       rw [World.size_alloc, World.size_alloc] at this
       exact (this.alloc _).alloc _
      ·
       have := Bk.new (((W'.alloc (.cells t.cells.toArray 54)).alloc (.cells #[.slice A k c] 56)).alloc (.cells #[.int .i64 p] 3)) 3 #[.int .i64 d]
       rw [World.size_alloc, World.size_alloc, World.size_alloc] at this
       exact this.alloc _
      ·
       have := Bk.new ((((W'.alloc (.cells t.cells.toArray 54)).alloc (.cells #[.slice A k c] 56)).alloc (.cells #[.int .i64 p] 3)).alloc (.cells #[.int .i64 d] 3)) 3 #[.int .i64 ((j : Int) + 1)]
       rwa [World.size_alloc, World.size_alloc, World.size_alloc, World.size_alloc] at this
     generalize (((((W'.alloc (.cells t.cells.toArray 54)).alloc (.cells #[.slice A k c] 56)).alloc (.cells #[.int .i64 p] 3)).alloc (.cells #[.int .i64 d] 3)).alloc (.cells #[.int .i64 ((j : Int) + 1)] 3)) = w2 at hsz hbe hcp ⊢
     have hgl := Hst.out.bo.lt
     have hIA : IA w t W'.heap.size S ds [] w2 := by
      refine ⟨v, Hst.out.below.trans (hbe.mono (by omega)), Hst.out.bt.below hbe Hst.out.bt.lt, Hst.out.bo.below hbe hgl, ?_, ?_, ?_⟩
      ·
       rw [List.append_nil]
       exact Hst.out.own.kept (show W'.grownBy w2 none from ⟨hbe.os, hbe.tape, hbe.output, hbe.size, fun i hi _ => hbe.block i hi⟩) (by cases hv : v.ownBlock with | none => exact .inl rfl | some r => exact .inr (by simp))
      ·
       intro r hr
       exact .inl ((Hst.out.own.lt r hr).2)
      ·
       exact Hst.out.marks.kept (Nat.le_refl _) fun D _ hb hD => (hbe.block D hb).trans hD
     generalize hg : W'.heap.size = g at hsz hbe hcp hgl hIA ⊢
     have HIA := Lib.hid hIA; have Hcp := Lib.hid hcp; clear hIA hcp
     have hbw : Below w.heap.size w w2 := Hst.out.below.trans (hbe.mono (by omega))
     have hlenS : S.length ≤ 1170 - 65 := by
      have h1 := sidesL_len t l p d
      have h2 := sideL_len t l p d j
      have h3 : d * (9 * (l.length + 1)) ≤ 1 * (9 * 65) := Nat.mul_le_mul (by omega) (by rw [Hk.out]; omega)
      have h4 : j * (l.length + 1) ≤ 8 * 65 := Nat.mul_le_mul (by omega) (by rw [Hk.out]; omega)
      rw [HS.out, List.length_append]
      omega
     have hlenX : (stintsL t l p d ((j : Int) + 1)).length ≤ 65 := by
      have := stLoop_len p d ((j : Int) + 1) l ⟨d, (j : Int) + 1, (t.get d).at_ ((j : Int) + 1), (t.get d).bat ((j : Int) + 1), 0, 0⟩
      rw [Hk.out] at this
      exact Nat.le_trans this (by omega)
     refine wpIn_rangeFunc_row rfl (by omega) (gf := 151) (lb := #[.pointer (some ⟨g + 3, 0, none⟩), .pointer (some ⟨g + 4, 0, none⟩), .pointer (some ⟨g, 0, none⟩), .pointer (some ⟨g + 1, 0, none⟩), .pointer (some ⟨g + 2, 0, none⟩)]) rfl trivial (enters_of Tryz.func151 (by kernel_rfl) rfl)
      (encs := fun x : Sti => #[.agg #[.int .i64 x.side, .int .i64 x.slot, .int .i64 x.pos, .string x.name, .int .i64 x.fr, .int .i64 x.to]]) (Kp := KpS w.heap.size g (g + 7)) (xs := stintsL t l p d ((j : Int) + 1))
      ?hseq (fun h k => h.trans k) ?hKb (fun _ => rfl) (IA w t g S ds) ?hI HIA.out
      (fun x a' X => ∃ Bx, g + 7 < Bx ∧ Bk X Bx 107 x.val ∧ a' = { tmps := #[.agg T, .slice A k c, .int .i64 p, .pointer (some ⟨w.heap.size, 0, none⟩), undef, undef, .slice none 0 0, .pointer (some ⟨w.heap.size + 1, 0, none⟩), .int .i64 d, .int .i64 ((j : Int) + 1), .pointer (some ⟨Bx, 0, none⟩), .int .i64 d, u12, .int .i64 d, .int .i64 ((j : Int) + 1), .bool true, u16, u17, .agg t.cells.toArray, .slice A k c, .int .i64 p, .int .i64 d, .int .i64 ((j : Int) + 1), .func (.func 151) #[] #[.pointer (some ⟨g + 3, 0, none⟩), .pointer (some ⟨g + 4, 0, none⟩), .pointer (some ⟨g, 0, none⟩), .pointer (some ⟨g + 1, 0, none⟩), .pointer (some ⟨g + 2, 0, none⟩)], .agg #[.int .i64 x.side, .int .i64 x.slot, .int .i64 x.pos, .string x.name, .int .i64 x.fr, .int .i64 x.to], undef, undef, undef, undef, u29, undef], defers := [] })
      ?hAx ?hassign ?hbody ?hdone
     case hseq =>
      intro lp J X hX hXs hJ hY h0
      exact stints1_in 4 (by omega) t Ht.out l A k c Hk.out (by omega) p d ((j : Int) + 1) hd0 (by omega) (by omega) g (g + 7) w.heap.size (by omega) (by omega) w rfl Hl.out lp J X (by omega) (hbw.trans (hX.mono hbw.size)) (Hcp.out.kept fun b _ hb => hX.block b (by omega)) (by rw [hsz] at hJ; exact hJ)
       (fun pre x W1 hj hl hB => hY pre x W1 hj hl (by omega)) h0
     case hKb =>
      intro X o o' ho hnc
      rw [hsz] at ho ⊢
      have hlt := (Array.getElem?_eq_some_iff.1 ho).1
      refine ⟨(Below.refl _ X).grown (grownBy_putObj' X _ _) (by omega) (fun r e => by have := Option.some.inj e; omega), by simp, fun b _ hb => World.putObj_heap_other (by omega), fun b cs hb => ?_⟩
      refine (World.putObj_heap_other (fun e => ?_)).trans hb
      subst e
      unfold Bk at hb
      rw [hb] at ho
      cases ho
      cases hnc
     case hI =>
      intro s X Y row hs hg' hr
      refine hs.grown (by omega) hg' (fun r e => ?_)
      rw [hsz] at hr
      rcases hr with rfl | rfl | rfl
      ·
       cases e
      ·
       have := Option.some.inj e; omega
      ·
       have := Option.some.inj e; omega
     case hAx =>
      rintro x a' X Y ⟨Bx, h1, h2, h3⟩ hg'
      exact ⟨Bx, h1, (hg'.block Bx h2.lt (fun e => by have := Option.some.inj e; omega)).trans h2, h3⟩
     case hassign =>
      intro lp pre x X K hi hbig hK
      rw [hsz] at hbig hK
      gi_wp2
      refine hK _ _ ⟨by simp, fun b o _ h0 _ => (Below.heap_alloc X _ b (Array.getElem?_eq_some_iff.1 h0).1).trans h0⟩ ⟨(Below.refl _ X).alloc (by omega) _, by simp, fun b _ hb => Below.heap_alloc X _ b (by omega), fun b cs hb => hb.alloc _⟩ (hi.grown (by omega) (World.grownBy_alloc X _ none) (fun r e => by cases e)) ⟨X.heap.size, by omega, Bk.new X 107 _, rfl⟩
     case hbody =>
      rintro lp pre x a' X ⟨v, hB, hbt, hbo, hown, hvb, hmk⟩ ⟨Bx, hBx, hbx, rfl⟩ hlen hbig
      rw [hsz] at hbig
      obtain ⟨R, hR⟩ : ∃ R, R = S ++ pre := ⟨_, rfl⟩
      rw [← hR] at hown
      have hlenT : R.length ≤ 1169 := by
       rw [hR, List.length_append]; omega
      have HR := Lib.hid hR; clear hR
      have HB := Lib.hid hB; have Hbt := Lib.hid hbt; have Hbo := Lib.hid hbo; have Hown := Lib.hid hown; have Hvb := Lib.hid hvb; have Hmk := Lib.hid hmk
      clear hB hbt hmk hvb
      have cv : X.cell? ⟨w.heap.size + 1, 0, none⟩ = some v := by rw [hbo.cell]; rfl
      have b0 : X.cell? ⟨Bx, 0, none⟩ = some (.int .i64 x.side) := by rw [hbx.cell]; rfl
      have b1 : X.cell? ⟨Bx, 1, none⟩ = some (.int .i64 x.slot) := by rw [hbx.cell]; rfl
      have b2 : X.cell? ⟨Bx, 2, none⟩ = some (.int .i64 x.pos) := by rw [hbx.cell]; rfl
      have b3 : X.cell? ⟨Bx, 3, none⟩ = some (.string x.name) := by rw [hbx.cell]; rfl
      have b4 : X.cell? ⟨Bx, 4, none⟩ = some (.int .i64 x.fr) := by rw [hbx.cell]; rfl
      have b5 : X.cell? ⟨Bx, 5, none⟩ = some (.int .i64 x.to) := by rw [hbx.cell]; rfl
      have hol := hbo.lt
      have hnew := Bk.new X 107 #[.int .i64 x.side, .int .i64 x.slot, .int .i64 x.pos, .string x.name, .int .i64 x.fr, .int .i64 x.to]
      have hcs : ∀ j' u, (#[.int .i64 x.side, .int .i64 x.slot, .int .i64 x.pos, .string x.name, .int .i64 x.fr, .int .i64 x.to] : Array Value).toList[j']? = some u → (X.alloc (.cells #[.int .i64 x.side, .int .i64 x.slot, .int .i64 x.pos, .string x.name, .int .i64 x.fr, .int .i64 x.to] 107)).cell? ((⟨X.heap.size, 0, none⟩ : Addr).add j') = some u := fun j' u hu => by
       rw [Addr.add_mid, Nat.zero_add, hnew.cell, ← hu, Array.getElem?_toList]
      have Hcs := Lib.hid hcs
      have hbo1 : Bk (X.alloc (.cells #[.int .i64 x.side, .int .i64 x.slot, .int .i64 x.pos, .string x.name, .int .i64 x.fr, .int .i64 x.to] 107)) (w.heap.size + 1) 86 #[v] := hbo.alloc _
      have Hbo1 := Lib.hid hbo1
      have hvo : v.ownBlock ≠ some (w.heap.size + 1) := fun e => by have := (hown.lt _ e).1; omega
      clear hbo hown hnew hcs hbo1 hbx
      gi_wp2_with (gi_at_builtin; refine wpListIn_append_at _ rfl _ _ 86 rfl (w.heap.size + 2) 107 i0 (.agg #[.int .i64 0, .int .i64 0, .int .i64 0, .string { data := #[] }, .int .i64 0, .int .i64 0]) 6 56 Tryz.underlying86 hi hz0 hz1 hz2 rfl (by decide) _ _ _ rfl (Hown.out.alloc _) ⟨X.heap.size, 0, none⟩ 1 1 (#[.int .i64 x.side, .int .i64 x.slot, .int .i64 x.pos, .string x.name, .int .i64 x.fr, .int .i64 x.to] : Array Value).toList rfl rfl Hcs.out (by simp [Value.oneCell']) (by unfold maxLen; omega) (by omega) (by simp; omega) ?_; intro v' w1 hown' hgrow hloc; obtain ⟨g', cap', rfl⟩ := ownsRow_succ hown'; have hbo2 : Bk w1 (w.heap.size + 1) 86 #[v] := (hgrow.block _ (by simp; omega) (fun e => hvo e.symm)).trans Hbo1.out; have cw : w1.cell? ⟨w.heap.size + 1, 0, none⟩ = some v := (by rw [hbo2.cell]; rfl); have fw := hbo2.frozen 0)
      have hsame : ∀ b q, X.heap[b]? = some q → b ≠ w.heap.size + 1 → v.ownBlock ≠ some b → (w1.setCell ⟨w.heap.size + 1, 0, none⟩ (.slice (some ⟨g', 0, none⟩) (R.length + 1) cap')).heap[b]? = some q := fun b q h1 h2 h3 => same_behind hgrow h1 h2 h3
      have hrow : ∀ b, v.ownBlock = some b → ∃ cs, X.heap[b]? = some (.cells cs 107 (0, 0)) := fun b hb => row_is Hown.out hb
      have hsz1 : X.heap.size + 1 ≤ w1.heap.size := by have := hgrow.size; simpa using this
      refine ⟨⟨by simpa [World.setCell] using (by omega : X.heap.size ≤ w1.heap.size), fun b o hb h0 hnc => hsame b o h0 (by omega) (fun e => ?_)⟩, ⟨?_, by simpa [World.setCell] using (by omega : X.heap.size ≤ w1.heap.size), fun b h1 h2 => ?_, fun b cs hb => ?_⟩, ?_⟩
      ·
       obtain ⟨cs, hcs⟩ := hrow b e
       rw [hcs] at h0
       cases h0
       cases hnc
      ·
       exact (((Below.refl w.heap.size X).alloc (by omega) _).grown hgrow (by simp; omega) (fun r hr => by have := (Hown.out.lt r hr).1; omega)).setCell (p := ⟨w.heap.size + 1, 0, none⟩) (by show w.heap.size ≤ w.heap.size + 1; omega) _
      ·
       have hbl : b < X.heap.size := by omega
       rw [Array.getElem?_eq_getElem hbl]
       exact hsame b _ (Array.getElem?_eq_getElem hbl) (by omega) (fun e => by have := Hvb.out b e; omega)
      ·
       refine hsame b _ hb (fun e => ?_) (fun e => ?_)
       ·
        subst e
        have h1 := Hbo.out
        unfold Bk at h1 hb
        rw [h1] at hb
        cases hb
       ·
        obtain ⟨cs', hcs⟩ := hrow b e
        unfold Bk at hb
        rw [hcs] at hb
        cases hb
      ·
       refine ⟨_, (((HB.out).alloc (by omega) _).grown hgrow (by simp; omega) (fun r hr => by have := (Hown.out.lt r hr).1; omega)).setCell (p := ⟨w.heap.size + 1, 0, none⟩) (by show w.heap.size ≤ w.heap.size + 1; omega) _, ?_, hbo2.set_ 0 _, ?_, ?_, ?_⟩
       ·
        exact hsame _ _ Hbt.out (by omega) (fun e => by have := (Hown.out.lt _ e).1; omega)
       ·
        have h1 := hown'.kept (grownBy_setCell' w1 (w.heap.size + 1) (.slice (some ⟨g', 0, none⟩) (R.length + 1) cap')) (.inr (fun e => by have := (hown'.lt _ e).1; omega))
        rw [← List.append_assoc, ← HR.out, flatS_append R, flatS_one, List.length_append]
        exact h1
       ·
        intro r hr
        rcases hloc with e | e
        ·
         exact Hvb.out r (e ▸ hr)
        ·
         rw [hr] at e
         have := Option.some.inj e
         simp at this
         omega
       ·
        refine Hmk.out.kept (Nat.le_refl _) fun D hl hb hD => hsame D _ hD (by omega) (fun e => ?_)
        obtain ⟨cs, hcs⟩ := hrow D e
        rw [hcs] at hD
        cases hD
     case hdone =>
      rintro X ⟨v', hB, hbt, hbo, hown, hvb, hmk⟩ hD
      rw [hsz] at hD ⊢
      have hDl := (Array.getElem?_eq_some_iff.1 hD).1
      have hst : StA w t X (S ++ stintsL t l p d ((j : Int) + 1)) v' ({ target := .collected (g + 5), args := #[] } :: ds) :=
       ⟨hB, hbt, hbo, hown, (hmk.push (D := g + 5) (by omega) (by omega) hD).kept (by omega) (fun _ _ _ h => h)⟩
      have Hst2 := Lib.hid hst
      clear hB hbt hbo hown hvb hmk hD hst
      gi_wp2
      refine ⟨⟨j + 1, _, v', _, _, _, _, _, _, _, _, _, _, _, _, by omega, ?_, Hst2.out, rfl⟩, ?_⟩
      ·
       rw [HS.out, sideL_succ, List.append_assoc]
      ·
       simp [intOf]; omega
    ·
     obtain rfl : j = 9 := by omega
     gi_wp2
     refine ⟨⟨d + 1, S, v, ds, _, _, _, _, _, _, _, _, _, _, _, _, _, _, _, by omega, by rw [sidesL_succ]; exact HS.out, Hst.out, rfl⟩, ?_⟩
     simp [intOf]; omega
  ·
   obtain rfl : d = 2 := by omega
   have cv : W'.cell? ⟨w.heap.size + 1, 0, none⟩ = some v := by rw [Hst.out.bo.cell]; rfl
   gi_wp2
   refine leaves_marks (lo := w.heap.size + 2) (b := W'.heap.size) (fun X => X.ownsRow (w.heap.size + 2) 107 6 v (allL t l p).length (flatS (allL t l p)) ∧ Below w.heap.size w X) ?_ ?_ ds W' Hst.out.marks ?_
   ·
    rintro X D ⟨h1, h2⟩ hlo hX
    refine ⟨?_, h2.grown (grownBy_putObj' X D _) (by have := (Array.getElem?_eq_some_iff.1 hX).1; omega) (fun r e => by have := Option.some.inj e; omega)⟩
    refine h1.kept (grownBy_putObj' X D _) ?_
    rcases h1.2 with ⟨rfl, _⟩ | ⟨g', cap, cur, rfl, _, hgb, _⟩
    ·
     exact .inl rfl
    ·
     refine .inr fun e => ?_
     have : g' = D := by simpa [Value.ownBlock] using e
     subst this
     rw [hgb] at hX
     cases hX
   ·
    rintro X ⟨h1, h2⟩
    refine ⟨_, results_tmp rfl _ _ _, ⟨v, rfl, ?_⟩, h2⟩
    refine ⟨h1.1, ?_⟩
    rcases h1.2 with h0 | ⟨g', cap, cur, e, hbg, hrest⟩
    ·
     exact .inl h0
    ·
     exact .inr ⟨g', cap, cur, e, by omega, hrest⟩
   ·
    exact ⟨by rw [← sidesL_two, ← HS.out]; exact Hst.out.own, Hst.out.below⟩
end Go.Proofs.YtmagppkclnebjaaGreatDoor

set_option linter.unusedSimpArgs false
namespace Go.Proofs.YtmagppkclnebjaaGreatDoor
open Go.RowKit
open L

def noSti : Sti := ⟨0, 0, 0, .empty, 0, 0⟩
/-- slice address A holds these stints -/
def RdS (w : World) (A : Option Addr) (S : List Sti) : Prop :=
 ∀ k, k < S.length → ∃ b off, A = some ⟨b, off, none⟩ ∧ ∀ j, j < 6 → w.cell? ⟨b, off + k * 6 + j, none⟩ = (S.getD k noSti).val[j]?
theorem RdS.below {w w' : World} {A : Option Addr} {S : List Sti} (h : RdS w A S) (hb : Below w.heap.size w w') : RdS w' A S := fun k hk => by
 obtain ⟨b, off, e, hc⟩ := h k hk
 refine ⟨b, off, e, fun j hj => ?_⟩
 have h0 := hc 0 (by omega)
 have hlt : b < w.heap.size := World.block_lt_of_cell? w ⟨b, off + k * 6 + 0, none⟩ (u := .int .i64 (S.getD k noSti).side) (by rw [h0]; rfl)
 rw [hb.cell (p := ⟨b, off + k * 6 + j, none⟩) hlt]
 exact hc j hj
theorem flatS_at : ∀ (S : List Sti) (i r : Nat), i < S.length → r < 6 → (flatS S)[i * 6 + r]? = (S.getD i noSti).val[r]?
 | [], i, _, h, _ => by simp at h
 | s :: R, 0, r, _, hr => by
  have e : flatS (s :: R) = s.val.toList ++ flatS R := by simp [flatS]
  rw [e, Nat.zero_mul, Nat.zero_add, List.getElem?_append_left (by simpa [L.Sti.val] using hr)]
  simp
 | s :: R, i + 1, r, h, hr => by
  have e : flatS (s :: R) = s.val.toList ++ flatS R := by simp [flatS]
  have := flatS_at R i r (by simpa using h) hr
  rw [e, List.getElem?_append_right (by simp [L.Sti.val]; omega)]
  simp only [L.Sti.val, List.length_cons, List.length_nil] at this ⊢
  rw [show (i + 1) * 6 + r - (0 + 1 + 1 + 1 + 1 + 1 + 1) = i * 6 + r by omega, this]
  simp
theorem RdS.of_own {w : World} {base n c : Nat} {A : Option Addr} {S : List Sti} (h : w.ownsRow base 107 6 (.slice A n c) n (flatS S)) : RdS w A S := fun k hk => by
 have hn : n = S.length := by have := h.1; rw [flatS_len] at this; omega
 rcases h.2 with ⟨_, h0⟩ | ⟨g, cap, cur, e, _⟩
 ·
  omega
 ·
  injection e with e1 e2 e3
  subst e1; subst e3
  refine ⟨g, 0, rfl, fun j hj => ?_⟩
  rw [Nat.zero_add, h.cellAt _ (by omega), flatS_at S k j hk hj]
theorem RdS.of_slk {w : World} {n c : Nat} {A : Option Addr} {S : List Sti} (h : SlK 6 w (.slice A n c) n (flatS S)) : RdS w A S := fun k hk => by
 obtain ⟨h1, A', c', e, hr⟩ := h
 injection e with e1 e2 e3
 subst e1
 rw [flatS_len] at h1
 obtain ⟨b, off, e, hc⟩ := hr.at_ (k := k * 6) (by rw [flatS_len]; omega)
 subst e
 refine ⟨b, off, rfl, fun j hj => ?_⟩
 rcases hr with h0 | ⟨b', off', e', hc'⟩
 ·
  have : (flatS S).length = 0 := by rw [h0]; rfl
  rw [flatS_len] at this; omega
 ·
  injection e' with e'
  injection e' with e1 e2
  subst e1; subst e2
  rw [Nat.add_assoc, hc' _ (by rw [flatS_len]; omega), flatS_at S k j hk hj]

/-- the closure of Pitchers: is a stint to go? -/
def goes (side : Int) (s : Sti) : Bool := s.side != side || s.pos != 1
theorem goes_any (s : Sti) (bx : Nat) (side : Int) (w : World) (h : Bk w bx 3 #[.int .i64 side]) :
 Calls Tryz.prog 100 #[.agg #[.int .i64 s.side, .int .i64 s.slot, .int .i64 s.pos, .string s.name, .int .i64 s.fr, .int .i64 s.to], .pointer (some ⟨bx, 0, none⟩)] w fun x w' => x = .returned (.bool (goes side s)) ∧ Below w.heap.size w w' := by
 have hb := Lib.hid (bt_new w (.cells #[.int .i64 s.side, .int .i64 s.slot, .int .i64 s.pos, .string s.name, .int .i64 s.fr, .int .i64 s.to] 107))
 have c0 : (w.alloc (.cells #[.int .i64 s.side, .int .i64 s.slot, .int .i64 s.pos, .string s.name, .int .i64 s.fr, .int .i64 s.to] 107)).cell? ⟨bx, 0, none⟩ = some (.int .i64 side) := by rw [(h.alloc _).cell]; rfl
 clear h
 by_cases h1 : s.side = side
 ·
  have q1 : (s.side != side) = false := by simpa using h1
  clear h1
  go_enter Tryz.func100, Tryz.ntmps100
  go_wp2
  go_ret
  exact ⟨ret_bool (by simp [goes, q1]), hb.out⟩
 ·
  have q1 : (s.side != side) = true := by simpa using h1
  clear h1
  go_enter Tryz.func100, Tryz.ntmps100
  go_wp2
  go_ret
  exact ⟨ret_bool (by simp [goes, q1]), hb.out⟩

set_option maxHeartbeats 2000000 in
theorem indexSti_any (side : Int) (bx : Nat) (S : List Sti) (A : Option Addr) (n c : Nat) (w : World) (hn : S.length = n) (hle : n ≤ 100000) (h : RdS w A S) (hbx : Bk w bx 3 #[.int .i64 side]) :
 Calls Tryz.prog 133 #[.slice A n c, .func (.func 100) #[] #[.pointer (some ⟨bx, 0, none⟩)]] w fun x w' => x = .returned (.int .i64 (idxF (goes side) S)) ∧ Below w.heap.size w w' := by
 have Hn := Lib.hid hn; have H := Lib.hid h; have Hbx := Lib.hid hbx
 clear hn h hbx
 go_enter Tryz.func133, Tryz.ntmps133
 go_wp2
 go_loopw [8] (fun i wr => ∃ k : Nat, k ≤ n ∧ i = .int .i64 k ∧ Below w.heap.size w wr ∧ ∀ j, j < k → goes side (S.getD j noSti) = false) (fun i _ => n - (intOf i).toNat)
 case atStart => exact ⟨0, Nat.zero_le _, rfl, Below.refl _ _, by intro j hj; omega⟩
 case round =>
  obtain ⟨k, hk, rfl, hb, hj⟩ := hrel
  have Hb := Lib.hid hb; have Hj := Lib.hid hj; clear hb hj
  by_cases hlt : k < n
  ·
   obtain ⟨b, off, rfl, hc⟩ := (H.out.below Hb.out) k (by rw [Hn.out]; exact hlt)
   generalize he : S.getD k noSti = e at hc
   have He := Lib.hid he; clear he
   have c0 : wr.cell? ⟨b, off + k * 6, none⟩ = some (.int .i64 e.side) := hc 0 (by omega)
   have c1 : wr.cell? ⟨b, off + k * 6 + 1, none⟩ = some (.int .i64 e.slot) := hc 1 (by omega)
   have c2 : wr.cell? ⟨b, off + k * 6 + 2, none⟩ = some (.int .i64 e.pos) := hc 2 (by omega)
   have c3 : wr.cell? ⟨b, off + k * 6 + 3, none⟩ = some (.string e.name) := hc 3 (by omega)
   have c4 : wr.cell? ⟨b, off + k * 6 + 4, none⟩ = some (.int .i64 e.fr) := hc 4 (by omega)
   have c5 : wr.cell? ⟨b, off + k * 6 + 5, none⟩ = some (.int .i64 e.to) := hc 5 (by omega)
   clear hc
   have hcl := goes_any e bx side wr (Hbx.out.below Hb.out Hbx.out.lt)
   generalize hq : goes side e = q at hcl
   have Hq := Lib.hid hq; have Hcl := Lib.hid hcl; clear hq hcl
   cases q with
   | true =>
    go_wp2_with (go_at_call 100; refine Hcl.out.mono ?_; rintro e w2 ⟨rfl, hb2⟩)
    go_ret
    exact ⟨ret_int (idxF_hit _ _ noSti k (by rw [Hn.out]; exact hlt) Hj.out (by rw [He.out, Hq.out])).symm, bt_trans Hb.out hb2⟩
   | false =>
    go_wp2_with (go_at_call 100; refine Hcl.out.mono ?_; rintro e w2 ⟨rfl, hb2⟩)
    go_roundw
    case rel =>
     refine ⟨k + 1, by omega, by go_num, bt_trans Hb.out hb2, fun j hj => ?_⟩
     rcases Nat.lt_succ_iff_lt_or_eq.1 hj with h1 | rfl
     ·
      exact Hj.out j h1
     ·
      rw [He.out, Hq.out]
    case measure => simp [intOf]; omega
  ·
   go_wp2
   go_ret
   exact ⟨ret_int (idxF_miss _ _ noSti (fun j hj => Hj.out j (by have := Hn.out; omega))).symm, Hb.out⟩
end Go.Proofs.YtmagppkclnebjaaGreatDoor

set_option linter.unusedSimpArgs false
namespace Go.Proofs.YtmagppkclnebjaaGreatDoor
open Go.RowKit
open L

theorem idxF_spec {α : Type} (p : α → Bool) (l : List α) (d : α) (i : Nat) (h : idxF p l = (i : Int)) : i < l.length ∧ p (l.getD i d) = true ∧ ∀ j, j < i → p (l.getD j d) = false := by
 unfold idxF at h
 cases hf : l.findIdx? p with
 | none => rw [hf] at h; simp at h
 | some k =>
  rw [hf] at h
  have hk : k = i := by simp at h; omega
  subst hk
  rw [List.findIdx?_eq_some_iff_getElem] at hf
  obtain ⟨h1, h2, h3⟩ := hf
  refine ⟨h1, by simpa [List.getD, List.getElem?_eq_getElem h1] using h2, fun j hj => ?_⟩
  have := h3 j hj
  simpa [List.getD, List.getElem?_eq_getElem (show j < l.length by omega)] using this
theorem idxF_neg {α : Type} (p : α → Bool) (l : List α) (h : idxF p l = -1) : ∀ x ∈ l, p x = false := by
 unfold idxF at h
 cases hf : l.findIdx? p with
 | none => simpa [List.findIdx?_eq_none_iff] using hf
 | some k => rw [hf] at h; simp at h
theorem idxF_cases {α : Type} (p : α → Bool) (l : List α) : idxF p l = -1 ∨ ∃ i : Nat, idxF p l = (i : Int) := by
 unfold idxF
 cases l.findIdx? p with
 | none => exact .inl rfl
 | some k => exact .inr ⟨k, rfl⟩
theorem flatS_take (L : List Sti) (i : Nat) (h : i ≤ L.length) : flatS (L.take i) = (flatS L).take (i * 6) := by
 have e : flatS L = flatS (L.take i) ++ flatS (L.drop i) := by rw [← flatS_append, List.take_append_drop]
 rw [e, List.take_left' (by rw [flatS_len, List.length_take]; omega)]
def set6 (xs : List Value) (o : Nat) (x : Sti) : List Value :=
 (((((xs.set o (.int .i64 x.side)).set (o + 1) (.int .i64 x.slot)).set (o + 2) (.int .i64 x.pos)).set (o + 3) (.string x.name)).set (o + 4) (.int .i64 x.fr)).set (o + 5) (.int .i64 x.to)
theorem set6_behind (a b c d e f : Value) (t : List Value) (o : Nat) (x : Sti) : set6 (a :: b :: c :: d :: e :: f :: t) (o + 6) x = a :: b :: c :: d :: e :: f :: set6 t o x := rfl
theorem flatS_set : ∀ (L : List Sti) (i : Nat) (x : Sti), i < L.length → flatS (L.set i x) = set6 (flatS L) (i * 6) x
 | [], i, _, h => by simp at h
 | s :: R, 0, x, _ => by simp [flatS, L.Sti.val, set6]
 | s :: R, i + 1, x, h => by
  have ih := flatS_set R i x (by simpa using h)
  have e : ∀ (y : Sti) (Q : List Sti), flatS (y :: Q) = .int .i64 y.side :: .int .i64 y.slot :: .int .i64 y.pos :: .string y.name :: .int .i64 y.fr :: .int .i64 y.to :: flatS Q := fun y Q => by simp [flatS, L.Sti.val]
  rw [List.set_cons_succ, e, e, ih, show (i + 1) * 6 = i * 6 + 6 by omega, set6_behind]
theorem own_set6 {w : World} {base g n cap : Nat} {xs : List Value} (h : w.ownsRow base 107 6 (.slice (some ⟨g, 0, none⟩) n cap) n xs) (o : Nat) (x : Sti) :
 ((((((w.setCell ⟨g, o, none⟩ (.int .i64 x.side)).setCell ⟨g, o + 1, none⟩ (.int .i64 x.slot)).setCell ⟨g, o + 2, none⟩ (.int .i64 x.pos)).setCell ⟨g, o + 3, none⟩ (.string x.name)).setCell ⟨g, o + 4, none⟩ (.int .i64 x.fr)).setCell ⟨g, o + 5, none⟩ (.int .i64 x.to)).ownsRow base 107 6 (.slice (some ⟨g, 0, none⟩) n cap) n (set6 xs o x) ∧ w.grownBy ((((((w.setCell ⟨g, o, none⟩ (.int .i64 x.side)).setCell ⟨g, o + 1, none⟩ (.int .i64 x.slot)).setCell ⟨g, o + 2, none⟩ (.int .i64 x.pos)).setCell ⟨g, o + 3, none⟩ (.string x.name)).setCell ⟨g, o + 4, none⟩ (.int .i64 x.fr)).setCell ⟨g, o + 5, none⟩ (.int .i64 x.to)) (some g) := by
 obtain ⟨h1, g1⟩ := h.stored o (.int .i64 x.side)
 obtain ⟨h2, g2⟩ := h1.stored (o + 1) (.int .i64 x.slot)
 obtain ⟨h3, g3⟩ := h2.stored (o + 2) (.int .i64 x.pos)
 obtain ⟨h4, g4⟩ := h3.stored (o + 3) (.string x.name)
 obtain ⟨h5, g5⟩ := h4.stored (o + 4) (.int .i64 x.fr)
 obtain ⟨h6, g6⟩ := h5.stored (o + 5) (.int .i64 x.to)
 exact ⟨h6, g1.trans (g2.trans (g3.trans (g4.trans (g5.trans g6))))⟩
theorem own_sets {base g n cap : Nat} : ∀ (vs : List Value) (o : Nat) {w : World} {xs : List Value}, w.ownsRow base 107 6 (.slice (some ⟨g, 0, none⟩) n cap) n xs →
 ∃ xs', (w.setCells g o vs).ownsRow base 107 6 (.slice (some ⟨g, 0, none⟩) n cap) n xs' ∧ w.grownBy (w.setCells g o vs) (some g) ∧ xs'.take o = xs.take o
 | [], _, w, xs, h => ⟨xs, h, World.grownBy.refl w _, rfl⟩
 | v :: r, o, w, xs, h => by
  obtain ⟨h1, g1⟩ := h.stored o v
  obtain ⟨xs', h2, g2, h3⟩ := own_sets r (o + 1) h1
  refine ⟨xs', h2, g1.trans g2, ?_⟩
  have h4 := congrArg (List.take o) h3
  rw [List.take_take, List.take_take, Nat.min_eq_left (by omega)] at h4
  rw [h4, List.take_set_of_le (Nat.le_refl _)]
theorem own_cut {w : World} {base g n cap : Nat} {xs : List Value} (h : w.ownsRow base 107 6 (.slice (some ⟨g, 0, none⟩) n cap) n xs) (i : Nat) (hi : i ≤ n) : w.ownsRow base 107 6 (.slice (some ⟨g, 0, none⟩) i cap) i (xs.take (i * 6)) := by
 have hl := h.1
 rcases h.2 with ⟨h', _⟩ | ⟨g', cap', cur, h', hb, hg, hnc, hcm, hcs, htake⟩
 ·
  simp at h'
 ·
  simp only [Value.slice.injEq, Option.some.injEq, Addr.mk.injEq, and_true, true_and] at h'
  obtain ⟨rfl, rfl⟩ := h'
  refine ⟨by rw [List.length_take]; omega, .inr ⟨g, cap, cur, rfl, hb, hg, by omega, hcm, hcs, ?_⟩⟩
  rw [← htake, List.take_take, Nat.min_eq_left (by omega)]
theorem own_there {w : World} {base g n cap : Nat} {xs : List Value} (h : w.ownsRow base 107 6 (.slice (some ⟨g, 0, none⟩) n cap) n xs) (o m : Nat) (hm : o + m ≤ n * 6) : w.there g o m := fun j hj => by
 refine ⟨?_, h.frozenAt _⟩
 rw [h.cellAt _ (by omega), List.getElem?_eq_getElem (by rw [h.1]; omega)]
 rfl
theorem run_clear_sti (w : World) (ty : TypeId) (g o n c : Nat) (hn : 0 < n) (ht : w.there g o (n * 6)) :
 ∃ vs : List Value, (Builtin.clear_ #[86] ty #[.slice (some ⟨g, o, none⟩) n c]).run Tryz.prog w = .ok (.tuple #[]) (w.setCells g o vs) := by
 obtain ⟨m, rfl⟩ : ∃ m, n = m + 1 := ⟨n - 1, by omega⟩
 refine ⟨(Builtin.zeroCells #[.int .i64 0, .int .i64 0, .int .i64 0, .string { data := #[] }, .int .i64 0, .int .i64 0] (m + 1)).toList, ?_⟩
 have hz : ∀ W, (zeroValue 107).run Tryz.prog W = .ok (.agg #[.int .i64 0, .int .i64 0, .int .i64 0, .string { data := #[] }, .int .i64 0, .int .i64 0]) W := fun W => by kernel_rfl
 have hst := run_storeCells_cells (P := Tryz.prog) g o (Builtin.zeroCells #[.int .i64 0, .int .i64 0, .int .i64 0, .string { data := #[] }, .int .i64 0, .int .i64 0] (m + 1)).toList 0 w ?_ ?_ ?_
 ·
  simp only [Nat.add_zero] at hst
  simp [Builtin.clear_, run_underlying Tryz.underlying86, hz, Value.cells, hst]
 ·
  intro j hj
  exact (ht j (by simpa [Builtin.zeroCells] using hj)).1
 ·
  intro j hj
  exact (ht j (by simpa [Builtin.zeroCells] using hj)).2
 ·
  intro v hv
  simp [Builtin.zeroCells] at hv
  obtain ⟨a, _, rfl⟩ := hv
  have h6 : a % 6 = 0 ∨ a % 6 = 1 ∨ a % 6 = 2 ∨ a % 6 = 3 ∨ a % 6 = 4 ∨ a % 6 = 5 := by omega
  rcases h6 with h | h | h | h | h | h <;> rw [h] <;> rfl

theorem wpList_clear {P : Program} {ops : Array Oper} {rest : List Oper} {o : Oper} {a : Act} {w : World} {Q : Exit → Act → World → Prop} (hgd : o.guard = none) (x : Operand) (t : TypeId) (ho : o.op = .call { callee := .builtin .clear, args := #[x], argTypes := #[t] })
 (v : Value) (hx : a.eval x = v) (w' : World) (hrun : (Builtin.clear_ #[t] o.type #[v]).run P w = .ok (.tuple #[]) w') (h : wpList P ops Q rest (a.put o.dst (.tuple #[])) w') : wpList P ops Q (o :: rest) a w := by
 refine wpList_plain hgd fun K hK => ?_
 unfold Oper.wp execOp
 simp only [ho, resolve, invoke, builtin, Sem.run_bind, Sem.run_pure, Result.andThen_ok, List.map_toArray, List.map_cons, List.map_nil, hx, hrun]
 exact hK _ _ h
theorem pitchersOf_eq (S : List Sti) (side : Int) : pitchersOf S side = S.filter fun s => !goes side s := rfl
theorem filter_step (S : List Sti) (side : Int) (j : Nat) (hj : j < S.length) : (S.take (j + 1)).filter (fun s => !goes side s) = (S.take j).filter (fun s => !goes side s) ++ (if goes side (S.getD j noSti) then [] else [S.getD j noSti]) := by
 rw [List.take_succ_eq_append_getElem hj, List.filter_append]
 congr 1
 have : S.getD j noSti = S[j] := by simp [List.getD, List.getElem?_eq_getElem hj]
 rw [this]
 cases hg : goes side S[j] <;> simp [hg]
theorem size107 (w : World) : (sizeOf 107).run Tryz.prog w = .ok 6 w := by kernel_rfl
theorem info107s : (Tryz.prog.info? 107).map (·.size) = some 6 := by kernel_rfl

set_option maxHeartbeats 4000000 in
set_option maxRecDepth 100000 in
theorem deleteFunc_any (side : Int) (bx base : Nat) (S : List Sti) (v : Value) (w : World) (hle : S.length ≤ 100000) (how : w.ownsRow base 107 6 v S.length (flatS S)) (hbx : Bk w bx 3 #[.int .i64 side]) :
 Calls Tryz.prog 99 #[v, .func (.func 100) #[] #[.pointer (some ⟨bx, 0, none⟩)]] w fun x w' =>
  (∃ v', x = .returned v' ∧ w'.ownsRow base 107 6 v' (pitchersOf S side).length (flatS (pitchersOf S side)) ∧ v'.ownBlock = v.ownBlock) ∧ w.grownBy w' v.ownBlock := by
 obtain ⟨A, c, rfl⟩ : ∃ A c, v = .slice A S.length c := by
  rcases how.2 with ⟨h1, h2⟩ | ⟨g, cap, cur, h1, _⟩
  ·
   exact ⟨none, 0, by rw [h1, h2]⟩
  ·
   exact ⟨_, _, h1⟩
 have hrd := RdS.of_own how
 obtain ⟨n, hn⟩ : ∃ n, S.length = n := ⟨_, rfl⟩
 rw [hn] at how hle ⊢
 have hix := indexSti_any side bx S A n c w hn hle hrd hbx
 rcases idxF_cases (goes side) S with hneg | ⟨i0, hpos⟩
 ·
  rw [hneg] at hix
  have hf : pitchersOf S side = S := by
   rw [pitchersOf_eq, List.filter_eq_self]
   intro x hx
   rw [idxF_neg _ _ hneg x hx]; rfl
  have Hix := Lib.hid hix; have Hf := Lib.hid hf; have How := Lib.hid how; have Hn := Lib.hid hn
  clear hix hf how hrd hbx hneg hn
  go_enter Tryz.func99, Tryz.ntmps99
  go_wp2_with (go_at_call 133; refine Hix.out.mono ?_; rintro e w1 ⟨rfl, hb1⟩)
  go_ret
  rw [Hf.out, Hn.out]
  have hg : w.grownBy w1 none := ⟨hb1.os, hb1.tape, hb1.output, hb1.size, fun i hi _ => hb1.block i hi⟩
  refine ⟨⟨_, rfl, How.out.kept hg ?_, rfl⟩, ⟨hb1.os, hb1.tape, hb1.output, hb1.size, fun i hi _ => hb1.block i hi⟩⟩
  cases hv : Value.ownBlock (.slice A n c) with
  | none => exact .inl rfl
  | some r => exact .inr (by simp)
 ·
  rw [hpos] at hix
  obtain ⟨hi0, hgo, hbefore⟩ := idxF_spec (goes side) S noSti i0 hpos
  obtain ⟨g, rfl, hgb, hcn⟩ : ∃ g, A = some ⟨g, 0, none⟩ ∧ base ≤ g ∧ n ≤ c := by
   rcases how.2 with ⟨_, h2⟩ | ⟨g, cap, cur, h1, h2, _, h3, _⟩
   ·
    omega
   ·
    injection h1 with e1 e2 e3
    exact ⟨g, e1, h2, by omega⟩
  have hgbx : g ≠ bx := fun e => by
   obtain ⟨cs, hcs⟩ := row_is how (b := g) rfl
   unfold Bk at hbx
   rw [e, hbx] at hcs
   cases hcs
  have hf0 : S.take i0 = (S.take (i0 + 1)).filter fun s => !goes side s := by
   rw [filter_step S side i0 hi0, hgo, if_pos rfl, List.append_nil]
   symm
   rw [List.filter_eq_self]
   intro x hx
   obtain ⟨j, hj, rfl⟩ := List.getElem_of_mem hx
   have hji : j < i0 := by have := hj; rw [List.length_take] at this; omega
   have := hbefore j hji
   rw [show S.getD j noSti = S[j] by simp [List.getD, List.getElem?_eq_getElem (show j < S.length by omega)]] at this
   simp [this]
  have Hix := Lib.hid hix; have How := Lib.hid how; have Hn := Lib.hid hn; have Hbx := Lib.hid hbx; have Hf0 := Lib.hid hf0; have Hrd := Lib.hid hrd
  have hi0n : i0 < n := by omega
  clear hix how hrd hbx hn hf0 hgo hbefore hpos hi0
  have hs1 : ∀ (i : Nat), i < n → ∀ W, (Instr.sliceAt 86 (.slice (some ⟨g, 0, none⟩) n c) (some (.int .i64 i)) none none).run Tryz.prog W = .ok (.slice (some ⟨g, i * 6, none⟩) (n - i) (c - i)) W := fun i hi W => by
   have h1 : i ≤ c := by omega
   have h2 : ¬ c = i := by omega
   have h3 := size107 W
   simp [Instr.sliceAt, Instr.slice, run_underlying Tryz.underlying86, Instr.sliceBounds, Instr.sliceBound, asIntOf, h3, Addr.add_mid, h1, h2, hcn, Nat.le_of_lt hi]
  have hs2 : ∀ (i : Nat), i < n → ∀ W, (Instr.sliceAt 86 (.slice (some ⟨g, 0, none⟩) n c) none (some (.int .i64 i)) none).run Tryz.prog W = .ok (.slice (some ⟨g, 0, none⟩) i c) W := fun i hi W => by
   have h1 : i ≤ c := by omega
   have h3 := size107 W
   simp [Instr.sliceAt, Instr.slice, run_underlying Tryz.underlying86, Instr.sliceBounds, Instr.sliceBound, asIntOf, h3, Addr.add, h1, hcn, Nat.le_of_lt hi]
  have Hs1 := Lib.hid hs1; have Hs2 := Lib.hid hs2; clear hs1 hs2
  have hm1 : ((i0 : Int) == -1) = false := by simp
  go_enter Tryz.func99, Tryz.ntmps99
  go_upto_region 5 with (go_at_call 133; refine Hix.out.mono ?_; rintro e w1 ⟨rfl, hb1⟩)
  have F : Hid (w1.ownsRow base 107 6 (.slice (some ⟨g, 0, none⟩) n c) n (flatS S) ∧ Bk w1 bx 3 #[.int .i64 side] ∧ w.grownBy w1 (some g)) := by
   refine ⟨How.out.kept (show w.grownBy w1 none from ⟨hb1.os, hb1.tape, hb1.output, hb1.size, fun i hi _ => hb1.block i hi⟩) (.inr (by simp [Value.ownBlock])), Hbx.out.below hb1 Hbx.out.lt, ⟨hb1.os, hb1.tape, hb1.output, hb1.size, fun i hi _ => hb1.block i hi⟩⟩
  clear hb1
  go_loopw [5, 6] (fun a b wr => ∃ (i j : Nat) (L : List Sti), i < j ∧ j ≤ n ∧ a = .int .i64 i ∧ b = .int .i64 j ∧ L.length = n ∧ wr.ownsRow base 107 6 (.slice (some ⟨g, 0, none⟩) n c) n (flatS L) ∧ Bk wr bx 3 #[.int .i64 side] ∧ w.grownBy wr (some g) ∧
   L.take i = (S.take j).filter (fun s => !goes side s) ∧ L.drop j = S.drop j) (fun _ b _ => n - (intOf b).toNat)
  case atStart => exact ⟨i0, i0 + 1, S, by omega, by omega, rfl, by go_num, Hn.out, F.out.1, F.out.2.1, F.out.2.2, Hf0.out, rfl⟩
  case round =>
   obtain ⟨i, j, L, hij, hj, rfl, rfl, hLn, hown, hbx, hgr, hft, hdr⟩ := hrel
   clear F
   have HLn := Lib.hid hLn; have Hown := Lib.hid hown; have Hbx' := Lib.hid hbx; have Hgr := Lib.hid hgr; have Hft := Lib.hid hft; have Hdr := Lib.hid hdr
   clear hLn hown hbx hgr hft hdr
   by_cases hjn : j < n
   ·
    have hjS : j < S.length := by rw [Hn.out]; exact hjn
    have hjL : j < L.length := by rw [HLn.out]; exact hjn
    have hLS : L.getD j noSti = S.getD j noSti := by
     have h1 : (L.drop j)[0]? = (S.drop j)[0]? := by rw [Hdr.out]
     rw [List.getElem?_drop, List.getElem?_drop, Nat.add_zero] at h1
     simp [List.getD, h1]
    obtain ⟨b, off, hbb, hc⟩ := (RdS.of_own Hown.out) j hjL
    cases hbb
    rw [hLS] at hc
    have hstep := filter_step S side j hjS
    generalize S.getD j noSti = e at hc hstep
    have Hstep := Lib.hid hstep
    clear hLS hstep
    have c0 : wr.cell? ⟨g, 0 + j * 6, none⟩ = some (.int .i64 e.side) := hc 0 (by omega)
    have c1 : wr.cell? ⟨g, 0 + j * 6 + 1, none⟩ = some (.int .i64 e.slot) := hc 1 (by omega)
    have c2 : wr.cell? ⟨g, 0 + j * 6 + 2, none⟩ = some (.int .i64 e.pos) := hc 2 (by omega)
    have c3 : wr.cell? ⟨g, 0 + j * 6 + 3, none⟩ = some (.string e.name) := hc 3 (by omega)
    have c4 : wr.cell? ⟨g, 0 + j * 6 + 4, none⟩ = some (.int .i64 e.fr) := hc 4 (by omega)
    have c5 : wr.cell? ⟨g, 0 + j * 6 + 5, none⟩ = some (.int .i64 e.to) := hc 5 (by omega)
    rw [Nat.zero_add] at c0 c1 c2 c3 c4 c5
    clear hc
    have hbv := Bk.new wr 107 #[.int .i64 e.side, .int .i64 e.slot, .int .i64 e.pos, .string e.name, .int .i64 e.fr, .int .i64 e.to]
    have hal := World.grownBy_alloc wr (.cells #[.int .i64 e.side, .int .i64 e.slot, .int .i64 e.pos, .string e.name, .int .i64 e.fr, .int .i64 e.to] 107) (some g)
    have F2 : Hid ((wr.alloc (.cells #[.int .i64 e.side, .int .i64 e.slot, .int .i64 e.pos, .string e.name, .int .i64 e.fr, .int .i64 e.to] 107)).ownsRow base 107 6 (.slice (some ⟨g, 0, none⟩) n c) n (flatS L) ∧ Bk (wr.alloc (.cells #[.int .i64 e.side, .int .i64 e.slot, .int .i64 e.pos, .string e.name, .int .i64 e.fr, .int .i64 e.to] 107)) bx 3 #[.int .i64 side] ∧ w.grownBy (wr.alloc (.cells #[.int .i64 e.side, .int .i64 e.slot, .int .i64 e.pos, .string e.name, .int .i64 e.fr, .int .i64 e.to] 107)) (some g) ∧ Bk (wr.alloc (.cells #[.int .i64 e.side, .int .i64 e.slot, .int .i64 e.pos, .string e.name, .int .i64 e.fr, .int .i64 e.to] 107)) wr.heap.size 107 #[.int .i64 e.side, .int .i64 e.slot, .int .i64 e.pos, .string e.name, .int .i64 e.fr, .int .i64 e.to]) :=
     ⟨Hown.out.alloc _, Hbx'.out.alloc _, Hgr.out.trans hal, hbv⟩
    have hgl : g < wr.heap.size := (Hown.out.lt g rfl).2
    clear hbv hal
    go_upto_region 8 with fail
    generalize (wr.alloc (.cells #[.int .i64 e.side, .int .i64 e.slot, .int .i64 e.pos, .string e.name, .int .i64 e.fr, .int .i64 e.to] 107)) = W2 at F2 ⊢
    generalize wr.heap.size = vb at F2 hgl ⊢
    clear c0 c1 c2 c3 c4 c5 Hown Hbx' Hgr
    have b0 : W2.cell? ⟨vb, 0, none⟩ = some (.int .i64 e.side) := by rw [F2.out.2.2.2.cell]; rfl
    have b1 : W2.cell? ⟨vb, 1, none⟩ = some (.int .i64 e.slot) := by rw [F2.out.2.2.2.cell]; rfl
    have b2 : W2.cell? ⟨vb, 2, none⟩ = some (.int .i64 e.pos) := by rw [F2.out.2.2.2.cell]; rfl
    have b3 : W2.cell? ⟨vb, 3, none⟩ = some (.string e.name) := by rw [F2.out.2.2.2.cell]; rfl
    have b4 : W2.cell? ⟨vb, 4, none⟩ = some (.int .i64 e.fr) := by rw [F2.out.2.2.2.cell]; rfl
    have b5 : W2.cell? ⟨vb, 5, none⟩ = some (.int .i64 e.to) := by rw [F2.out.2.2.2.cell]; rfl
    have hcl := goes_any e bx side W2 F2.out.2.1
    generalize hq : goes side e = q at hcl
    have Hq := Lib.hid hq; have Hcl := Lib.hid hcl; clear hq hcl
    cases q with
    | true =>
     go_wp2_with (go_at_call 100; refine Hcl.out.mono ?_; rintro e' w3 ⟨rfl, hb3⟩)
     have hg3 : W2.grownBy w3 none := ⟨hb3.os, hb3.tape, hb3.output, hb3.size, fun i hi _ => hb3.block i hi⟩
     go_roundw
     case rel =>
      refine ⟨i, j + 1, L, by omega, by omega, rfl, by go_num, HLn.out, F2.out.1.kept hg3 (.inr (by simp [Value.ownBlock])), F2.out.2.1.below hb3 F2.out.2.1.lt, F2.out.2.2.1.trans ⟨hb3.os, hb3.tape, hb3.output, hb3.size, fun i hi _ => hb3.block i hi⟩, ?_, ?_⟩
      ·
       rw [Hft.out, Hstep.out, Hq.out, if_pos rfl, List.append_nil]
      ·
       have := congrArg (List.drop 1) Hdr.out
       rwa [List.drop_drop, List.drop_drop] at this
     case measure => simp [intOf]; omega
    | false =>
     have Hone : Hid ((#[.int .i64 e.side, .int .i64 e.slot, .int .i64 e.pos, .string e.name, .int .i64 e.fr, .int .i64 e.to] : Array Value).all (·.oneCell') = true) := by show _ = _; simp [Value.oneCell']
     have hqi : (0 : Int) ≤ (i : Int) := by omega
     have hqn : (i : Int) < (n : Int) := by omega
     have hth : ∀ w3, Below W2.heap.size W2 w3 → w3.ownsRow base 107 6 (.slice (some ⟨g, 0, none⟩) n c) n (flatS L) := fun w3 hb3 =>
      F2.out.1.kept (show W2.grownBy w3 none from ⟨hb3.os, hb3.tape, hb3.output, hb3.size, fun i hi _ => hb3.block i hi⟩) (.inr (by simp [Value.ownBlock]))
     have Hth := Lib.hid hth; clear hth
     go_upto_region 9 with (go_at_call 100; refine Hcl.out.mono ?_; rintro e' w3 ⟨rfl, hb3⟩)
     have F3 : Hid (w3.ownsRow base 107 6 (.slice (some ⟨g, 0, none⟩) n c) n (flatS L) ∧ Bk w3 bx 3 #[.int .i64 side] ∧ w.grownBy w3 (some g) ∧ Bk w3 vb 107 #[.int .i64 e.side, .int .i64 e.slot, .int .i64 e.pos, .string e.name, .int .i64 e.fr, .int .i64 e.to]) :=
      ⟨Hth.out _ hb3, F2.out.2.1.below hb3 F2.out.2.1.lt, F2.out.2.2.1.trans ⟨hb3.os, hb3.tape, hb3.output, hb3.size, fun i hi _ => hb3.block i hi⟩, F2.out.2.2.2.below hb3 F2.out.2.2.2.lt⟩
     clear hb3 F2 b0 b1 b2 b3 b4 b5 Hth Hcl
     have b0 : w3.cell? ⟨vb, 0, none⟩ = some (.int .i64 e.side) := by rw [F3.out.2.2.2.cell]; rfl
     have b1 : w3.cell? ⟨vb, 1, none⟩ = some (.int .i64 e.slot) := by rw [F3.out.2.2.2.cell]; rfl
     have b2 : w3.cell? ⟨vb, 2, none⟩ = some (.int .i64 e.pos) := by rw [F3.out.2.2.2.cell]; rfl
     have b3 : w3.cell? ⟨vb, 3, none⟩ = some (.string e.name) := by rw [F3.out.2.2.2.cell]; rfl
     have b4 : w3.cell? ⟨vb, 4, none⟩ = some (.int .i64 e.fr) := by rw [F3.out.2.2.2.cell]; rfl
     have b5 : w3.cell? ⟨vb, 5, none⟩ = some (.int .i64 e.to) := by rw [F3.out.2.2.2.cell]; rfl
     have hLi : i < L.length := by rw [HLn.out]; omega
     have hcl6 : ∀ r, r < 6 → w3.cell? ⟨g, i * 6 + r, none⟩ = (L.getD i noSti).val[r]? := fun r hr => by
      rw [F3.out.1.cellAt _ (by omega), flatS_at L i r hLi hr]
     generalize L.getD i noSti = y at hcl6
     have d0 : w3.cell? ⟨g, i * 6, none⟩ = some (.int .i64 y.side) := hcl6 0 (by omega)
     have d1 : w3.cell? ⟨g, i * 6 + 1, none⟩ = some (.int .i64 y.slot) := hcl6 1 (by omega)
     have d2 : w3.cell? ⟨g, i * 6 + 2, none⟩ = some (.int .i64 y.pos) := hcl6 2 (by omega)
     have d3 : w3.cell? ⟨g, i * 6 + 3, none⟩ = some (.string y.name) := hcl6 3 (by omega)
     have d4 : w3.cell? ⟨g, i * 6 + 4, none⟩ = some (.int .i64 y.fr) := hcl6 4 (by omega)
     have d5 : w3.cell? ⟨g, i * 6 + 5, none⟩ = some (.int .i64 y.to) := hcl6 5 (by omega)
     have f0 := F3.out.1.frozenAt (i * 6)
     have f1 := F3.out.1.frozenAt (i * 6 + 1)
     have f2 := F3.out.1.frozenAt (i * 6 + 2)
     have f3 := F3.out.1.frozenAt (i * 6 + 3)
     have f4 := F3.out.1.frozenAt (i * 6 + 4)
     have f5 := F3.out.1.frozenAt (i * 6 + 5)
     clear hcl6
     go_wp2
     obtain ⟨ho9, hg9⟩ := own_set6 F3.out.1 (i * 6) e
     go_roundw
     case rel =>
      refine ⟨i + 1, j + 1, L.set i e, by omega, by omega, by go_num, by go_num, by rw [List.length_set]; exact HLn.out, by rw [flatS_set _ _ _ (by omega)]; exact ho9, (hg9.block _ F3.out.2.1.lt (fun h => hgbx (Option.some.inj h).symm)).trans F3.out.2.1, F3.out.2.2.1.trans hg9, ?_, ?_⟩
      ·
       rw [Hstep.out, Hq.out, ← Hft.out, List.take_succ_eq_append_getElem (by rw [List.length_set]; exact hLi), List.getElem_set_self, List.take_set_of_le (Nat.le_refl _)]
       rfl
      ·
       have := congrArg (List.drop 1) Hdr.out
       rw [List.drop_drop, List.drop_drop] at this
       rw [List.drop_set_of_lt (by omega)]
       exact this
     case measure => simp [intOf]; omega
   ·
    obtain rfl : j = n := by omega
    have hLi : i < L.length := by rw [HLn.out]; omega
    have hpo : pitchersOf S side = L.take i := by
     rw [Hft.out, List.take_of_length_le (by rw [Hn.out]; exact Nat.le_refl _)]; rfl
    have Hpo := Lib.hid hpo; clear hpo
    obtain ⟨vs, hcl⟩ := run_clear_sti wr 0 g (i * 6) (j - i) (c - i) (by omega) (own_there Hown.out _ _ (by omega))
    obtain ⟨xs', ho', hg', htk⟩ := own_sets vs (i * 6) Hown.out
    have Hcl := Lib.hid hcl; have Ho' := Lib.hid ho'; have Hg' := Lib.hid hg'; have Htk := Lib.hid htk
    clear hcl ho' hg' htk
    have hs1 := Hs1.out i hij
    have hs2 := Hs2.out i hij
    obtain ⟨wo, hwo⟩ : ∃ wo : World, wo = wr := ⟨_, rfl⟩
    rw [← hwo] at Hown Hbx' Hgr Hcl Ho' Hg' ⊢
    clear hwo
    go_wp2_with (refine wpList_clear rfl (.tmp 38) 86 rfl _ rfl _ Hcl.out ?_)
    go_ret
    rw [Hpo.out, List.length_take, HLn.out, Nat.min_eq_left (by omega)]
    refine ⟨⟨_, rfl, ?_, rfl⟩, Hgr.out.trans Hg'.out⟩
    rw [flatS_take _ _ (by omega), ← Htk.out]
    exact own_cut Ho'.out i (by omega)
end Go.Proofs.YtmagppkclnebjaaGreatDoor

namespace Go.Proofs.YtmagppkclnebjaaGreatDoor
open Go.RowKit
open L

/-- what stays as it is while only new blocks come -/
def Keep (P : World → Prop) : Prop := ∀ X Y, P X → Below X.heap.size X Y → P Y
theorem keep_and {P Q : World → Prop} (hp : Keep P) (hq : Keep Q) : Keep (fun W => P W ∧ Q W) := fun X Y h hb => ⟨hp X Y h.1 hb, hq X Y h.2 hb⟩
theorem keep_below (w : World) : Keep (fun W => Below w.heap.size w W) := fun _ _ h hb => bt_trans h hb
theorem keep_bk (g : Nat) (t : TypeId) (cs : Array Value) : Keep (fun W => Bk W g t cs) := fun _ _ h hb => h.below hb h.lt
theorem keep_slk (k : Nat) (v : Value) (n : Nat) (xs : List Value) : Keep (fun W => SlK k W v n xs) := fun _ _ h hb => h.below hb
theorem keep_rds (A : Option Addr) (S : List Sti) : Keep (fun W => RdS W A S) := fun _ _ h hb => h.below hb
theorem keep_rdc (A : Option Addr) (S : List Chg) : Keep (fun W => RdC W A S) := fun _ _ h hb => h.below hb
theorem keep_rd (A : Option Addr) (S : List Value) : Keep (fun W => Rd W A S) := fun _ _ h hb => h.below hb
/-- a block behind which nothing is kept: it may be there, or not -/
theorem keep_true : Keep (fun _ => True) := fun _ _ _ _ => True.intro
end Go.Proofs.YtmagppkclnebjaaGreatDoor

set_option linter.unusedSimpArgs false
namespace Go.Proofs.YtmagppkclnebjaaGreatDoor
open Go.RowKit
open L

theorem part_one (w : World) (t : TypeId) (xs : Array Value) (o : Nat) (v : Value) (h : (isAgg t).run Tryz.prog w = .ok false w) (hx : xs[o]? = some v) : (part t xs o).run Tryz.prog w = .ok v w := by
 simp [part, h, hx]
def fld (n : String) (t o b : Nat) : Field := { name := n, type := t, offset := o, embedded := false, tag := "", pkgPath := "", byteOffset := b }
def fsChg : List Field := [fld "Side" 3 0 0, fld "Play" 3 1 8, fld "Slot" 3 2 16, fld "Player" 9 3 24, fld "Position" 3 4 40]
def fsSti : List Field := [fld "Side" 3 0 0, fld "Slot" 3 1 8, fld "Position" 3 2 16, fld "Player" 9 3 24, fld "From" 3 4 40, fld "To" 3 5 48]
def fsDev : List Field := [fld "Index" 3 0 0, fld "Proper" 9 1 8, fld "Came" 9 2 24, fld "Next" 9 3 40]
theorem eqI (w : World) (d : Nat) (x y : Int) : (Op.equalIn (d + 1) 3 (.int .i64 x) (.int .i64 y)).run Tryz.prog w = .ok (decide (x = y)) w := by
 rw [run_equalIn_int w d 3 .i64 .i64 _ _ Tryz.underlying3]; congr 1
theorem eqS (w : World) (d : Nat) (x y : Str) : (Op.equalIn (d + 1) 9 (.string x) (.string y)).run Tryz.prog w = .ok (decide (x = y)) w := by
 rw [run_equalIn_string w d 9 _ _ Tryz.underlying9, tl_beq]
theorem ne_Came : ("Came" : String) ≠ "_" := by simp
theorem ne_From : ("From" : String) ≠ "_" := by simp
theorem ne_Index : ("Index" : String) ≠ "_" := by simp
theorem ne_Next : ("Next" : String) ≠ "_" := by simp
theorem ne_Play : ("Play" : String) ≠ "_" := by simp
theorem ne_Player : ("Player" : String) ≠ "_" := by simp
theorem ne_Position : ("Position" : String) ≠ "_" := by simp
theorem ne_Proper : ("Proper" : String) ≠ "_" := by simp
theorem ne_Side : ("Side" : String) ≠ "_" := by simp
theorem ne_Slot : ("Slot" : String) ≠ "_" := by simp
theorem ne_To : ("To" : String) ≠ "_" := by simp
theorem eqF_step (w : World) (d : Nat) (f : Field) (fs : List Field) (xs ys : Array Value) (x y : Value) (b : Bool) (hn : f.name ≠ "_") (hx : (part f.type xs f.offset).run Tryz.prog w = .ok x w) (hy : (part f.type ys f.offset).run Tryz.prog w = .ok y w)
 (he : (Op.equalIn d f.type x y).run Tryz.prog w = .ok b w) (r : Bool) (hr : (Op.eqFields d xs ys fs).run Tryz.prog w = .ok r w) : (Op.eqFields d xs ys (f :: fs)).run Tryz.prog w = .ok (b && r) w := by
 have n1 : (f.name ≠ "_") = True := by simp [hn]
 simp only [Op.eqFields, n1, if_true, Sem.run_bind, hx, hy, he, Result.andThen_ok]
 cases b
 ·
  simp
 ·
  simpa using hr
theorem eqChg (t : TypeId) (ht : Tryz.prog.underlying t = some (.struct (Tryz.prog.fieldsOf t))) (hp : Tryz.prog.stoodInHeld t = false) (hf : Tryz.prog.fieldsOf t = fsChg.toArray)
 (w : World) (d : Nat) (a b : Chg) : (Op.equalIn (d + 3) t (.agg a.val) (.agg b.val)).run Tryz.prog w = .ok (decide (a = b)) w := by
 rw [run_equalIn_agg w (d + 2) t _ _ ht hp, hf]
 show (Op.eqFields (d + 2) _ _ fsChg).run _ _ = _
 unfold fsChg
 obtain ⟨a1, a2, a3, a4, a5⟩ := a
 obtain ⟨b1, b2, b3, b4, b5⟩ := b
 have hd : decide ((⟨a1, a2, a3, a4, a5⟩ : Chg) = ⟨b1, b2, b3, b4, b5⟩) = (decide (a1 = b1) && (decide (a2 = b2) && (decide (a3 = b3) && (decide (a4 = b4) && (decide (a5 = b5) && true))))) := by
  rw [Bool.eq_iff_iff]; simp
 rw [hd]
 refine eqF_step w (d + 2) (fld "Side" 3 0 0) _ _ _ _ _ _ ne_Side (part_one w 3 _ 0 _ (agg3 w) rfl) (part_one w 3 _ 0 _ (agg3 w) rfl) (eqI w (d + 1) _ _) _ ?_
 refine eqF_step w (d + 2) (fld "Play" 3 1 8) _ _ _ _ _ _ ne_Play (part_one w 3 _ 1 _ (agg3 w) rfl) (part_one w 3 _ 1 _ (agg3 w) rfl) (eqI w (d + 1) _ _) _ ?_
 refine eqF_step w (d + 2) (fld "Slot" 3 2 16) _ _ _ _ _ _ ne_Slot (part_one w 3 _ 2 _ (agg3 w) rfl) (part_one w 3 _ 2 _ (agg3 w) rfl) (eqI w (d + 1) _ _) _ ?_
 refine eqF_step w (d + 2) (fld "Player" 9 3 24) _ _ _ _ _ _ ne_Player (part_one w 9 _ 3 _ (agg9 w) rfl) (part_one w 9 _ 3 _ (agg9 w) rfl) (eqS w (d + 1) _ _) _ ?_
 refine eqF_step w (d + 2) (fld "Position" 3 4 40) _ _ _ _ _ _ ne_Position (part_one w 3 _ 4 _ (agg3 w) rfl) (part_one w 3 _ 4 _ (agg3 w) rfl) (eqI w (d + 1) _ _) _ ?_
 simp [Op.eqFields]
theorem eqSti (t : TypeId) (ht : Tryz.prog.underlying t = some (.struct (Tryz.prog.fieldsOf t))) (hp : Tryz.prog.stoodInHeld t = false) (hf : Tryz.prog.fieldsOf t = fsSti.toArray)
 (w : World) (d : Nat) (a b : Sti) : (Op.equalIn (d + 3) t (.agg a.val) (.agg b.val)).run Tryz.prog w = .ok (decide (a = b)) w := by
 rw [run_equalIn_agg w (d + 2) t _ _ ht hp, hf]
 show (Op.eqFields (d + 2) _ _ fsSti).run _ _ = _
 unfold fsSti
 obtain ⟨a1, a2, a3, a4, a5, a6⟩ := a
 obtain ⟨b1, b2, b3, b4, b5, b6⟩ := b
 have hd : decide ((⟨a1, a2, a3, a4, a5, a6⟩ : Sti) = ⟨b1, b2, b3, b4, b5, b6⟩) = (decide (a1 = b1) && (decide (a2 = b2) && (decide (a3 = b3) && (decide (a4 = b4) && (decide (a5 = b5) && (decide (a6 = b6) && true)))))) := by
  rw [Bool.eq_iff_iff]; simp
 rw [hd]
 refine eqF_step w (d + 2) (fld "Side" 3 0 0) _ _ _ _ _ _ ne_Side (part_one w 3 _ 0 _ (agg3 w) rfl) (part_one w 3 _ 0 _ (agg3 w) rfl) (eqI w (d + 1) _ _) _ ?_
 refine eqF_step w (d + 2) (fld "Slot" 3 1 8) _ _ _ _ _ _ ne_Slot (part_one w 3 _ 1 _ (agg3 w) rfl) (part_one w 3 _ 1 _ (agg3 w) rfl) (eqI w (d + 1) _ _) _ ?_
 refine eqF_step w (d + 2) (fld "Position" 3 2 16) _ _ _ _ _ _ ne_Position (part_one w 3 _ 2 _ (agg3 w) rfl) (part_one w 3 _ 2 _ (agg3 w) rfl) (eqI w (d + 1) _ _) _ ?_
 refine eqF_step w (d + 2) (fld "Player" 9 3 24) _ _ _ _ _ _ ne_Player (part_one w 9 _ 3 _ (agg9 w) rfl) (part_one w 9 _ 3 _ (agg9 w) rfl) (eqS w (d + 1) _ _) _ ?_
 refine eqF_step w (d + 2) (fld "From" 3 4 40) _ _ _ _ _ _ ne_From (part_one w 3 _ 4 _ (agg3 w) rfl) (part_one w 3 _ 4 _ (agg3 w) rfl) (eqI w (d + 1) _ _) _ ?_
 refine eqF_step w (d + 2) (fld "To" 3 5 48) _ _ _ _ _ _ ne_To (part_one w 3 _ 5 _ (agg3 w) rfl) (part_one w 3 _ 5 _ (agg3 w) rfl) (eqI w (d + 1) _ _) _ ?_
 simp [Op.eqFields]
theorem eqDev (t : TypeId) (ht : Tryz.prog.underlying t = some (.struct (Tryz.prog.fieldsOf t))) (hp : Tryz.prog.stoodInHeld t = false) (hf : Tryz.prog.fieldsOf t = fsDev.toArray)
 (w : World) (d : Nat) (a b : Dev) : (Op.equalIn (d + 3) t (.agg a.val) (.agg b.val)).run Tryz.prog w = .ok (decide (a = b)) w := by
 rw [run_equalIn_agg w (d + 2) t _ _ ht hp, hf]
 show (Op.eqFields (d + 2) _ _ fsDev).run _ _ = _
 unfold fsDev
 obtain ⟨a1, a2, a3, a4⟩ := a
 obtain ⟨b1, b2, b3, b4⟩ := b
 have hd : decide ((⟨a1, a2, a3, a4⟩ : Dev) = ⟨b1, b2, b3, b4⟩) = (decide (a1 = b1) && (decide (a2 = b2) && (decide (a3 = b3) && (decide (a4 = b4) && true)))) := by
  rw [Bool.eq_iff_iff]; simp
 rw [hd]
 refine eqF_step w (d + 2) (fld "Index" 3 0 0) _ _ _ _ _ _ ne_Index (part_one w 3 _ 0 _ (agg3 w) rfl) (part_one w 3 _ 0 _ (agg3 w) rfl) (eqI w (d + 1) _ _) _ ?_
 refine eqF_step w (d + 2) (fld "Proper" 9 1 8) _ _ _ _ _ _ ne_Proper (part_one w 9 _ 1 _ (agg9 w) rfl) (part_one w 9 _ 1 _ (agg9 w) rfl) (eqS w (d + 1) _ _) _ ?_
 refine eqF_step w (d + 2) (fld "Came" 9 2 24) _ _ _ _ _ _ ne_Came (part_one w 9 _ 2 _ (agg9 w) rfl) (part_one w 9 _ 2 _ (agg9 w) rfl) (eqS w (d + 1) _ _) _ ?_
 refine eqF_step w (d + 2) (fld "Next" 9 3 40) _ _ _ _ _ _ ne_Next (part_one w 9 _ 3 _ (agg9 w) rfl) (part_one w 9 _ 3 _ (agg9 w) rfl) (eqS w (d + 1) _ _) _ ?_
 simp [Op.eqFields]
theorem f144 : Tryz.prog.fieldsOf 144 = fsChg.toArray := by kernel_rfl
theorem f124 : Tryz.prog.fieldsOf 124 = fsSti.toArray := by kernel_rfl
theorem f29 : Tryz.prog.fieldsOf 29 = fsDev.toArray := by kernel_rfl
theorem f39 : Tryz.prog.fieldsOf 39 = fsDev.toArray := by kernel_rfl
theorem s144 : Tryz.prog.underlying 144 = some (.struct (Tryz.prog.fieldsOf 144)) := by kernel_rfl
theorem s124 : Tryz.prog.underlying 124 = some (.struct (Tryz.prog.fieldsOf 124)) := by kernel_rfl
theorem s29 : Tryz.prog.underlying 29 = some (.struct (Tryz.prog.fieldsOf 29)) := by kernel_rfl
theorem s39 : Tryz.prog.underlying 39 = some (.struct (Tryz.prog.fieldsOf 39)) := by kernel_rfl
theorem op_neq144 (w : World) (a b : Chg) : (binOp .neq 144 (.agg a.val) (.agg b.val)).run Tryz.prog w = .ok (.bool (!decide (a = b))) w := by
 rw [run_neq_struct, eqChg 144 s144 Tryz.stoodInHeld144 f144 w 9997 a b]; rfl
theorem op_neq124 (w : World) (a b : Sti) : (binOp .neq 124 (.agg a.val) (.agg b.val)).run Tryz.prog w = .ok (.bool (!decide (a = b))) w := by
 rw [run_neq_struct, eqSti 124 s124 Tryz.stoodInHeld124 f124 w 9997 a b]; rfl
theorem op_eql29 (w : World) (a b : Dev) : (binOp .eql 29 (.agg a.val) (.agg b.val)).run Tryz.prog w = .ok (.bool (decide (a = b))) w := by
 rw [run_eql_struct, eqDev 29 s29 Tryz.stoodInHeld29 f29 w 9997 a b]; rfl
theorem op_neq29 (w : World) (a b : Dev) : (binOp .neq 29 (.agg a.val) (.agg b.val)).run Tryz.prog w = .ok (.bool (!decide (a = b))) w := by
 rw [run_neq_struct, eqDev 29 s29 Tryz.stoodInHeld29 f29 w 9997 a b]; rfl
theorem op_neq39 (w : World) (a b : Dev) : (binOp .neq 39 (.agg a.val) (.agg b.val)).run Tryz.prog w = .ok (.bool (!decide (a = b))) w := by
 rw [run_neq_struct, eqDev 39 s39 Tryz.stoodInHeld39 f39 w 9997 a b]; rfl
end Go.Proofs.YtmagppkclnebjaaGreatDoor
