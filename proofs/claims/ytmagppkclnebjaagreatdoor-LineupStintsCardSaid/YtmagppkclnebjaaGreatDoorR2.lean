/- lineup.stints: the iterator over the stints of a slot gives them to whatever loop body keeps its memory. -/
import Derived.Test.YtmagppkclnebjaaGreatDoorA9
import Derived.Test.YtmagppkclnebjaaGreatDoorR1
import Derived.Shelf.Abstract
import Derived.Shelf.RegionOpen
import Derived.OwnWalkIn
import Derived.TacticsInMore
import Derived.LoopNIn
import Derived.LoopIn
import Derived.Sort.CutIn
set_option linter.unusedVariables false
set_option linter.unusedSimpArgs false
set_option linter.unusedSimpArgs false
namespace Go.Proofs.YtmagppkclnebjaaGreatDoor
open Go.RowKit Go.Shelf
open L
attribute [local go_sem] Oper.semAt_some

def L.Sti.val (s : Sti) : Array Value := #[.int .i64 s.side, .int .i64 s.slot, .int .i64 s.pos, .string s.name, .int .i64 s.fr, .int .i64 s.to]
/-- the variables that the iterator has captured -/
structure Caps (W : World) (g : Nat) (t : Tms) (A : Option Addr) (k c : Nat) (p side slot : Int) : Prop where
  bt : Bk W g 54 t.cells.toArray
  bl : Bk W (g + 1) 56 #[.slice A k c]
  bp : Bk W (g + 2) 3 #[.int .i64 p]
  bs : Bk W (g + 3) 3 #[.int .i64 side]
  bo : Bk W (g + 4) 3 #[.int .i64 slot]
theorem Caps.kept {W W' : World} {g k c : Nat} {t : Tms} {A : Option Addr} {p side slot : Int} (h : Caps W g t A k c p side slot) (hk : ∀ b, g ≤ b → b < g + 5 → W'.heap[b]? = W.heap[b]?) : Caps W' g t A k c p side slot :=
  ⟨(hk g (by omega) (by omega)).trans h.bt, (hk _ (by omega) (by omega)).trans h.bl, (hk _ (by omega) (by omega)).trans h.bp, (hk _ (by omega) (by omega)).trans h.bs, (hk _ (by omega) (by omega)).trans h.bo⟩
theorem Caps.grown {W W' : World} {g k c : Nat} {t : Tms} {A : Option Addr} {p side slot : Int} (h : Caps W g t A k c p side slot) {row : Option Nat} (hg : W.grownBy W' row) (hr : ∀ r, row = some r → g + 5 ≤ r) : Caps W' g t A k c p side slot :=
  h.kept fun b h1 h2 => hg.block b (by have := h.bo.lt; omega) (fun e => by have := hr _ e.symm; omega)

/-- what a round of the loop over the iterator keeps: what lay below n0; the captured variables and the iterator's own block; the copies of changes -/
def KpS (n0 g B : Nat) (W W' : World) : Prop :=
  Below n0 W W' ∧ W.heap.size ≤ W'.heap.size ∧ (∀ b, g ≤ b → (b < g + 5 ∨ b = B) → W'.heap[b]? = W.heap[b]?) ∧ ∀ b cs, Bk W b 142 cs → Bk W' b 142 cs
theorem grownBy_drewN {a w : World} {row : Option Nat} (h : a.grownBy w row) (n : Nat) : a.grownBy (w.drewN n) row := ⟨h.os, h.tape, h.output, h.size, h.block⟩
theorem stints_any (T : Array Value) (A : Option Addr) (k c : Nat) (p side slot : Int) (w : World) :
    Calls Tryz.prog 132 #[.agg T, .slice A k c, .int .i64 p, .int .i64 side, .int .i64 slot] w fun x w' =>
      x = .returned (.func (.func 151) #[] #[.pointer (some ⟨w.heap.size + 3, 0, none⟩), .pointer (some ⟨w.heap.size + 4, 0, none⟩), .pointer (some ⟨w.heap.size, 0, none⟩), .pointer (some ⟨w.heap.size + 1, 0, none⟩), .pointer (some ⟨w.heap.size + 2, 0, none⟩)]) ∧
      w' = ((((w.alloc (.cells T 54)).alloc (.cells #[.slice A k c] 56)).alloc (.cells #[.int .i64 p] 3)).alloc (.cells #[.int .i64 side] 3)).alloc (.cells #[.int .i64 slot] 3) := by
  go_enter Tryz.func132, Tryz.ntmps132
  go_wp2
  go_ret
  exact ⟨rfl, rfl⟩

theorem stLoop_skip (n side slot : Int) (now : Sti) (d : Chg) (r : List Chg) (h : d.side ≠ side ∨ d.slot ≠ slot ∨ n ≤ d.play) : stLoop n side slot now (d :: r) = stLoop n side slot now r := by rw [stLoop, if_pos h]
theorem stLoop_take (n side slot : Int) (now : Sti) (d : Chg) (r : List Chg) (h : ¬ (d.side ≠ side ∨ d.slot ≠ slot ∨ n ≤ d.play)) :
    stLoop n side slot now (d :: r) = (if now.fr < d.play then [⟨now.side, now.slot, now.pos, now.name, now.fr, d.play⟩] else []) ++ stLoop n side slot ⟨side, slot, d.pos, d.name, d.play, 0⟩ r := by rw [stLoop, if_neg h]

set_option maxHeartbeats 4000000 in
set_option maxRecDepth 100000 in
theorem stints1_in (n : Nat) (hn1 : 1 ≤ n) (t : Tms) (ht : t.ok) (l : List Chg) (A : Option Addr) (k c : Nat) (hk : l.length = k) (hle : k ≤ 1000) (p side slot : Int) (hs : side = 0 ∨ side = 1) (h1 : 1 ≤ slot) (h9 : slot ≤ 9)
    (g B n0 : Nat) (hgB : g + 5 ≤ B) (hn0 : n0 ≤ g) (w0 : World) (hw0 : w0.heap.size = n0) (hl : RdC w0 A l)
    (lp : Nat) (J : List Sti → World → Prop) (W : World) (hW : W.heap.size = B) (hbl : Below n0 w0 W) (hc : Caps W g t A k c p side slot)
    (hJ : ∀ s X Y, J s X → X.grownBy Y (some B) → J s Y)
    (hY : ∀ pre x W1, J pre W1 → pre.length < (stintsL t l p side slot).length → B < W1.heap.size → YieldAt Fence.wide (n - 1) Tryz.prog lp #[.agg x.val] W1 fun e W' =>
      e = .returned (.bool true) ∧ J (pre ++ [x]) W' ∧ KpS n0 g B W1 W')
    (h0 : J [] W) :
    CallsIn Fence.wide n Tryz.prog 151 #[.func (.yield lp) #[] #[], .pointer (some ⟨g + 3, 0, none⟩), .pointer (some ⟨g + 4, 0, none⟩), .pointer (some ⟨g, 0, none⟩), .pointer (some ⟨g + 1, 0, none⟩), .pointer (some ⟨g + 2, 0, none⟩)] W
      fun e W' => (∃ v, e = .returned v) ∧ J (stintsL t l p side slot) W' := by
  have Hl := Lib.hid hl; have Hk := Lib.hid hk; have Ht := Lib.hid ht; have Hs := Lib.hid hs; have HJ := Lib.hid hJ; have HY := Lib.hid hY; have Hw0 := Lib.hid hw0
  have Hbl := Lib.hid hbl; have Hc := Lib.hid hc; have H0 := Lib.hid h0
  clear hl hk ht hJ hY hbl hc h0 hw0 hs
  have c3 : W.cell? ⟨g + 3, 0, none⟩ = some (.int .i64 side) := by rw [Hc.out.bs.cell]; rfl
  have c4 : W.cell? ⟨g + 4, 0, none⟩ = some (.int .i64 slot) := by rw [Hc.out.bo.cell]; rfl
  refine callsIn_of_wp Tryz.func151 rfl trivial ?_ rfl
  simp only [Tryz.ntmps151, List.size_toArray, List.length_cons, List.length_nil, Nat.reduceAdd, Nat.reduceSub, Array.replicate_succ, Array.replicate_zero, List.push_toArray, List.append_toArray, List.nil_append, List.cons_append]
  have hnw : ∀ b, b < B → ∀ o, (W.alloc o).cell? ⟨b, 0, none⟩ = W.cell? ⟨b, 0, none⟩ := fun b hb o => World.cell?_alloc_lt W o ⟨b, 0, none⟩ (by show b < _; omega)
  have c3' : ∀ o, (W.alloc o).cell? ⟨g + 3, 0, none⟩ = some (.int .i64 side) := fun o => (hnw _ (by omega) o).trans c3
  have c4' : ∀ o, (W.alloc o).cell? ⟨g + 4, 0, none⟩ = some (.int .i64 slot) := fun o => (hnw _ (by omega) o).trans c4
  have F : Hid (∀ o, Bk (W.alloc o) g 54 t.cells.toArray) := fun o => Hc.out.bt.alloc o
  clear hnw
  have c1' : ∀ o, (W.alloc o).cell? ⟨g + 1, 0, none⟩ = some (.slice A k c) := fun o => by rw [(Hc.out.bl.alloc o).cell]; rfl
  gi_upto_region 2 with (first
    | (refine ⟨trivial, ?_⟩; gi_at_call 73; refine (callsIn_wide.2 (player_any t Ht.out g side slot Hs.out h1 h9 _ (F.out _))).mono ?_; rintro e w2 ⟨rfl, nn, rfl⟩)
    | (gi_at_call 73; refine (callsIn_wide.2 (player_any t Ht.out g side slot Hs.out h1 h9 _ (F.out _))).mono ?_; rintro e w2 ⟨rfl, nn, rfl⟩))
  have hg0 : W.grownBy ((((W.alloc (.cells #[.int .i64 side, .int .i64 slot, .int .i64 0, .string { data := #[] }, .int .i64 0, .int .i64 0] 107)).drewN nn).setCell ⟨B, 3, none⟩ (.string ((t.get side).bat slot))).setCell ⟨B, 2, none⟩ (.int .i64 ((t.get side).at_ slot))) (some B) :=
    only_set (only_set (grownBy_drewN (World.grownBy_alloc W _ (some B)) nn) 3 _) 2 _
  have F1 : Hid (Below n0 w0 ((((W.alloc (.cells #[.int .i64 side, .int .i64 slot, .int .i64 0, .string { data := #[] }, .int .i64 0, .int .i64 0] 107)).drewN nn).setCell ⟨B, 3, none⟩ (.string ((t.get side).bat slot))).setCell ⟨B, 2, none⟩ (.int .i64 ((t.get side).at_ slot))) ∧
      Caps ((((W.alloc (.cells #[.int .i64 side, .int .i64 slot, .int .i64 0, .string { data := #[] }, .int .i64 0, .int .i64 0] 107)).drewN nn).setCell ⟨B, 3, none⟩ (.string ((t.get side).bat slot))).setCell ⟨B, 2, none⟩ (.int .i64 ((t.get side).at_ slot))) g t A k c p side slot ∧
      Bk ((((W.alloc (.cells #[.int .i64 side, .int .i64 slot, .int .i64 0, .string { data := #[] }, .int .i64 0, .int .i64 0] 107)).drewN nn).setCell ⟨B, 3, none⟩ (.string ((t.get side).bat slot))).setCell ⟨B, 2, none⟩ (.int .i64 ((t.get side).at_ slot))) B 107 (Sti.val ⟨side, slot, (t.get side).at_ slot, (t.get side).bat slot, 0, 0⟩) ∧
      J [] ((((W.alloc (.cells #[.int .i64 side, .int .i64 slot, .int .i64 0, .string { data := #[] }, .int .i64 0, .int .i64 0] 107)).drewN nn).setCell ⟨B, 3, none⟩ (.string ((t.get side).bat slot))).setCell ⟨B, 2, none⟩ (.int .i64 ((t.get side).at_ slot)))) := by
    refine ⟨Hbl.out.grown hg0 (by omega) (fun r e => by have := Option.some.inj e; omega), Hc.out.grown hg0 (fun r e => by have := Option.some.inj e; omega), ?_, HJ.out _ _ _ H0.out hg0⟩
    have hb := Bk.new W 107 #[.int .i64 side, .int .i64 slot, .int .i64 0, .string { data := #[] }, .int .i64 0, .int .i64 0]
    rw [hW] at hb
    exact ((hb.drewN nn).set_ 3 _).set_ 2 _
  clear hg0 Hbl Hc H0 F c3 c4 c3' c4' c1'
  generalize ((((W.alloc (.cells #[.int .i64 side, .int .i64 slot, .int .i64 0, .string { data := #[] }, .int .i64 0, .int .i64 0] 107)).drewN nn).setCell ⟨B, 3, none⟩ (.string ((t.get side).bat slot))).setCell ⟨B, 2, none⟩ (.int .i64 ((t.get side).at_ slot))) = W2 at F1 ⊢
  have c1 : W2.cell? ⟨g + 1, 0, none⟩ = some (.slice A k c) := by rw [F1.out.2.1.bl.cell]; rfl
  gi_wp2
  gi_loopw [23] (fun v wr => ∃ (i : Nat) (pre : List Sti) (now : Sti), i ≤ k ∧ v = .int .i64 i ∧ J pre wr ∧ Below n0 w0 wr ∧ Caps wr g t A k c p side slot ∧ Bk wr B 107 now.val ∧ stintsL t l p side slot = pre ++ stLoop p side slot now (l.drop i)) (fun v _ => k - (intOf v).toNat)
  case atStart => exact ⟨0, [], _, by omega, rfl, F1.out.2.2.2, F1.out.1, F1.out.2.1, F1.out.2.2.1, by simp [stintsL]⟩
  case round =>
    obtain ⟨i, pre, now, hik, rfl, hj, hb, hc, hbk, hst⟩ := hrel
    clear F1 c1
    have Hj := Lib.hid hj; have Hb := Lib.hid hb; have Hc := Lib.hid hc; have Hbk := Lib.hid hbk; have Hst := Lib.hid hst
    clear hj hb hc hbk hst
    by_cases hkn : i < k
    · obtain ⟨b, off, rfl, hcc⟩ := Hl.out i (by rw [Hk.out]; exact hkn)
      have hb0 : b < n0 := by
        rw [← Hw0.out]
        exact World.block_lt_of_cell? w0 ⟨b, off + i * 5 + 0, none⟩ (u := .int .i64 (l.getD i ⟨0, 0, 0, .empty, 0⟩).side) (by rw [hcc 0 (by omega)]; rfl)
      have hcell : ∀ j, j < 5 → wr.cell? ⟨b, off + i * 5 + j, none⟩ = (l.getD i ⟨0, 0, 0, .empty, 0⟩).val[j]? := fun j hj => by
        rw [Hb.out.cell (p := ⟨b, off + i * 5 + j, none⟩) hb0]; exact hcc j hj
      have hdr : l.drop i = l.getD i ⟨0, 0, 0, .empty, 0⟩ :: l.drop (i + 1) := by
        have hkl : i < l.length := by rw [Hk.out]; exact hkn
        rw [List.drop_eq_getElem_cons hkl]
        simp [List.getD, List.getElem?_eq_getElem hkl]
      generalize hd : l.getD i ⟨0, 0, 0, .empty, 0⟩ = d at hcell hdr
      have Hdr := Lib.hid hdr; clear hd hdr hcc
      have c0 : wr.cell? ⟨b, off + i * 5, none⟩ = some (.int .i64 d.side) := hcell 0 (by omega)
      have c1 : wr.cell? ⟨b, off + i * 5 + 1, none⟩ = some (.int .i64 d.play) := hcell 1 (by omega)
      have c2 : wr.cell? ⟨b, off + i * 5 + 2, none⟩ = some (.int .i64 d.slot) := hcell 2 (by omega)
      have c3 : wr.cell? ⟨b, off + i * 5 + 3, none⟩ = some (.string d.name) := hcell 3 (by omega)
      have c4 : wr.cell? ⟨b, off + i * 5 + 4, none⟩ = some (.int .i64 d.pos) := hcell 4 (by omega)
      clear hcell
      have hBs := Hbk.out.lt
      have hga := World.grownBy_alloc wr (.cells #[.int .i64 d.side, .int .i64 d.play, .int .i64 d.slot, .string d.name, .int .i64 d.pos] 142) (some B)
      have F0 : Hid (Below n0 w0 (wr.alloc (.cells #[.int .i64 d.side, .int .i64 d.play, .int .i64 d.slot, .string d.name, .int .i64 d.pos] 142)) ∧ Caps (wr.alloc (.cells #[.int .i64 d.side, .int .i64 d.play, .int .i64 d.slot, .string d.name, .int .i64 d.pos] 142)) g t (some ⟨b, off, none⟩) k c p side slot ∧ Bk (wr.alloc (.cells #[.int .i64 d.side, .int .i64 d.play, .int .i64 d.slot, .string d.name, .int .i64 d.pos] 142)) B 107 now.val ∧ J pre (wr.alloc (.cells #[.int .i64 d.side, .int .i64 d.play, .int .i64 d.slot, .string d.name, .int .i64 d.pos] 142)) ∧ Bk (wr.alloc (.cells #[.int .i64 d.side, .int .i64 d.play, .int .i64 d.slot, .string d.name, .int .i64 d.pos] 142)) wr.heap.size 142 d.val ∧ B < wr.heap.size) :=
        ⟨Hb.out.grown hga (by have := Hb.out.size; omega) (fun r e => by have := Option.some.inj e; omega), Hc.out.grown hga (fun r e => by have := Option.some.inj e; omega), Hbk.out.alloc _, HJ.out _ _ _ Hj.out hga, Bk.new wr 142 #[.int .i64 d.side, .int .i64 d.play, .int .i64 d.slot, .string d.name, .int .i64 d.pos], hBs⟩
      clear hga
      gi_upto_region 5 with fail
      generalize (wr.alloc (.cells #[.int .i64 d.side, .int .i64 d.play, .int .i64 d.slot, .string d.name, .int .i64 d.pos] 142)) = W0 at F0 ⊢
      generalize wr.heap.size = bx at F0 hBs ⊢
      clear c0 c1 c2 c3 c4 Hb Hbk Hc Hj
      have x0 : W0.cell? ⟨bx, 0, none⟩ = some (.int .i64 d.side) := by rw [F0.out.2.2.2.2.1.cell]; rfl
      have x1 : W0.cell? ⟨bx, 1, none⟩ = some (.int .i64 d.play) := by rw [F0.out.2.2.2.2.1.cell]; rfl
      have x2 : W0.cell? ⟨bx, 2, none⟩ = some (.int .i64 d.slot) := by rw [F0.out.2.2.2.2.1.cell]; rfl
      have y3 : W0.cell? ⟨g + 3, 0, none⟩ = some (.int .i64 side) := by rw [F0.out.2.1.bs.cell]; rfl
      have y4 : W0.cell? ⟨g + 4, 0, none⟩ = some (.int .i64 slot) := by rw [F0.out.2.1.bo.cell]; rfl
      have y2 : W0.cell? ⟨g + 2, 0, none⟩ = some (.int .i64 p) := by rw [F0.out.2.1.bp.cell]; rfl
      by_cases hA : d.side ≠ side
      · have ha : (d.side != side) = true := by simpa using hA
        have HA := Lib.hid hA; clear hA
        gi_wp2
        go_roundw
        case rel => exact ⟨i + 1, pre, now, by omega, by go_num, F0.out.2.2.2.1, F0.out.1, F0.out.2.1, F0.out.2.2.1, by rw [Hst.out, Hdr.out, stLoop_skip _ _ _ _ _ _ (.inl HA.out)]⟩
        case measure => simp [intOf]; omega
      · have ha : (d.side != side) = false := by simpa using hA
        have HA := Lib.hid hA; clear hA
        by_cases hB : d.slot ≠ slot
        · have hb : (d.slot != slot) = true := by simpa using hB
          have HB := Lib.hid hB; clear hB
          gi_wp2
          go_roundw
          case rel => exact ⟨i + 1, pre, now, by omega, by go_num, F0.out.2.2.2.1, F0.out.1, F0.out.2.1, F0.out.2.2.1, by rw [Hst.out, Hdr.out, stLoop_skip _ _ _ _ _ _ (.inr (.inl HB.out))]⟩
          case measure => simp [intOf]; omega
        · have hb : (d.slot != slot) = false := by simpa using hB
          have HB := Lib.hid hB; clear hB
          by_cases hC : p ≤ d.play
          · have HC := Lib.hid hC
            gi_wp2
            go_roundw
            case rel => exact ⟨i + 1, pre, now, by omega, by go_num, F0.out.2.2.2.1, F0.out.1, F0.out.2.1, F0.out.2.2.1, by rw [Hst.out, Hdr.out, stLoop_skip _ _ _ _ _ _ (.inr (.inr HC.out))]⟩
            case measure => simp [intOf]; omega
          · have hst2 : stintsL t l p side slot = pre ++ ((if now.fr < d.play then [⟨now.side, now.slot, now.pos, now.name, now.fr, d.play⟩] else []) ++ stLoop p side slot ⟨side, slot, d.pos, d.name, d.play, 0⟩ (l.drop (i + 1))) := by
              rw [Hst.out, Hdr.out, stLoop_take _ _ _ _ _ _ (by
                rintro (h | h | h)
                · exact HA.out h
                · exact HB.out h
                · exact hC h)]
            have Hst2 := Lib.hid hst2
            clear hst2
            have z5 : W0.cell? ⟨B, 5, none⟩ = some (.int .i64 now.to) := by rw [F0.out.2.2.1.cell]; rfl
            have w5 : W0.frozen? ⟨B, 5, none⟩ = false := F0.out.2.2.1.frozen 5
            have hg5 : W0.grownBy (W0.setCell ⟨B, 5, none⟩ (.int .i64 d.play)) (some B) := only_set (World.grownBy.refl W0 (some B)) 5 _
            have F3 : Hid (Below n0 w0 (W0.setCell ⟨B, 5, none⟩ (.int .i64 d.play)) ∧ Caps (W0.setCell ⟨B, 5, none⟩ (.int .i64 d.play)) g t (some ⟨b, off, none⟩) k c p side slot ∧ Bk (W0.setCell ⟨B, 5, none⟩ (.int .i64 d.play)) B 107 (Sti.val ⟨now.side, now.slot, now.pos, now.name, now.fr, d.play⟩) ∧ J pre (W0.setCell ⟨B, 5, none⟩ (.int .i64 d.play)) ∧ Bk (W0.setCell ⟨B, 5, none⟩ (.int .i64 d.play)) bx 142 d.val) :=
              ⟨F0.out.1.grown hg5 (by have := F0.out.2.2.1.lt; omega) (fun r e => by have := Option.some.inj e; omega), F0.out.2.1.grown hg5 (fun r e => by have := Option.some.inj e; omega), F0.out.2.2.1.set_ 5 _, HJ.out _ _ _ F0.out.2.2.2.1 hg5, F0.out.2.2.2.2.1.far (p := ⟨B, 5, none⟩) (by show bx ≠ B; omega) _⟩
            clear hg5
            gi_upto_region 7 with fail
            generalize (W0.setCell ⟨B, 5, none⟩ (.int .i64 d.play)) = W3 at F3 ⊢
            clear F0 x0 x1 x2 y2 y3 y4 z5 w5
            have z0 : W3.cell? ⟨B, 0, none⟩ = some (.int .i64 now.side) := by rw [F3.out.2.2.1.cell]; rfl
            have z1 : W3.cell? ⟨B, 1, none⟩ = some (.int .i64 now.slot) := by rw [F3.out.2.2.1.cell]; rfl
            have z2 : W3.cell? ⟨B, 2, none⟩ = some (.int .i64 now.pos) := by rw [F3.out.2.2.1.cell]; rfl
            have z3 : W3.cell? ⟨B, 3, none⟩ = some (.string now.name) := by rw [F3.out.2.2.1.cell]; rfl
            have z4 : W3.cell? ⟨B, 4, none⟩ = some (.int .i64 now.fr) := by rw [F3.out.2.2.1.cell]; rfl
            have z5 : W3.cell? ⟨B, 5, none⟩ = some (.int .i64 d.play) := by rw [F3.out.2.2.1.cell]; rfl
            have hn2 : 1 ≤ n - 1 + 1 := by omega
            gi_cut [56] from 77 (fun s56 wx => s56 = .bool false ∧ ∃ pre' : List Sti, J pre' wx ∧ Below n0 w0 wx ∧ Caps wx g t (some ⟨b, off, none⟩) k c p side slot ∧ Bk wx B 107 (Sti.val ⟨now.side, now.slot, now.pos, now.name, now.fr, d.play⟩) ∧ Bk wx bx 142 d.val ∧ stintsL t l p side slot = pre' ++ stLoop p side slot ⟨side, slot, d.pos, d.name, d.play, 0⟩ (l.drop (i + 1)))
            case first =>
              by_cases hlt : now.fr < d.play
              · obtain ⟨fn, tmps, assign, body, hy, hR⟩ := HY.out pre ⟨now.side, now.slot, now.pos, now.name, now.fr, d.play⟩ W3 F3.out.2.2.2.1 (by rw [Hst2.out, if_pos hlt]; simp) F3.out.2.2.1.lt
                have Hlt := Lib.hid hlt
                dsimp only [L.Sti.val] at hy
                gi_wp2
                refine hR.mono ?_
                rintro e W4 ⟨rfl, hJ4, hkp⟩
                gi_wp2
                gi_meet
                case rel =>
                  refine ⟨rfl, pre ++ [⟨now.side, now.slot, now.pos, now.name, now.fr, d.play⟩], hJ4, F3.out.1.trans hkp.1, F3.out.2.1.kept (fun b h1 h2 => hkp.2.2.1 b h1 (.inl h2)), (hkp.2.2.1 B (by omega) (.inr rfl)).trans F3.out.2.2.1, hkp.2.2.2 _ _ F3.out.2.2.2.2, ?_⟩
                  rw [Hst2.out, if_pos Hlt.out]; simp
              · have Hlt := Lib.hid hlt
                gi_wp2
                refine ⟨fun _ h => (by cases h), ?_⟩
                gi_wp2
                gi_meet
                case rel =>
                  refine ⟨rfl, pre, F3.out.2.2.2.1, F3.out.1, F3.out.2.1, F3.out.2.2.1, F3.out.2.2.2.2, ?_⟩
                  rw [Hst2.out, if_neg (by have := Hlt.out; omega)]; simp
            case rest =>
              obtain ⟨h56, pre', hj, hb, hc, hbk, hbx, hst⟩ := hcut
              subst h56
              clear F3 Hst2 z0 z1 z2 z3 z4 z5
              have Hj := Lib.hid hj; have Hb := Lib.hid hb; have Hc := Lib.hid hc; have Hbk := Lib.hid hbk; have Hbx := Lib.hid hbx; have Hst2 := Lib.hid hst
              clear hj hb hc hbk hbx hst
              have x1 : wc.cell? ⟨bx, 1, none⟩ = some (.int .i64 d.play) := by rw [Hbx.out.cell]; rfl
              have x3 : wc.cell? ⟨bx, 3, none⟩ = some (.string d.name) := by rw [Hbx.out.cell]; rfl
              have x4 : wc.cell? ⟨bx, 4, none⟩ = some (.int .i64 d.pos) := by rw [Hbx.out.cell]; rfl
              have y3 : wc.cell? ⟨g + 3, 0, none⟩ = some (.int .i64 side) := by rw [Hc.out.bs.cell]; rfl
              have y4 : wc.cell? ⟨g + 4, 0, none⟩ = some (.int .i64 slot) := by rw [Hc.out.bo.cell]; rfl
              have z0 : wc.cell? ⟨B, 0, none⟩ = some (.int .i64 now.side) := by rw [Hbk.out.cell]; rfl
              have z1 : wc.cell? ⟨B, 1, none⟩ = some (.int .i64 now.slot) := by rw [Hbk.out.cell]; rfl
              have z2 : wc.cell? ⟨B, 2, none⟩ = some (.int .i64 now.pos) := by rw [Hbk.out.cell]; rfl
              have z3 : wc.cell? ⟨B, 3, none⟩ = some (.string now.name) := by rw [Hbk.out.cell]; rfl
              have z4 : wc.cell? ⟨B, 4, none⟩ = some (.int .i64 now.fr) := by rw [Hbk.out.cell]; rfl
              have z5 : wc.cell? ⟨B, 5, none⟩ = some (.int .i64 d.play) := by rw [Hbk.out.cell]; rfl
              have f0 := Hbk.out.frozen 0
              have f1 := Hbk.out.frozen 1
              have f2 := Hbk.out.frozen 2
              have f3 := Hbk.out.frozen 3
              have f4 := Hbk.out.frozen 4
              have f5 := Hbk.out.frozen 5
              gi_upto_region 9 with fail
              have hg9 : wc.grownBy ((((((wc.setCell ⟨B, 0, none⟩ (.int .i64 side)).setCell ⟨B, 1, none⟩ (.int .i64 slot)).setCell ⟨B, 2, none⟩ (.int .i64 d.pos)).setCell ⟨B, 3, none⟩ (.string d.name)).setCell ⟨B, 4, none⟩ (.int .i64 d.play)).setCell ⟨B, 5, none⟩ (.int .i64 0)) (some B) := only_set (only_set (only_set (only_set (only_set (only_set (World.grownBy.refl wc (some B)) 0 _) 1 _) 2 _) 3 _) 4 _) 5 _
              have F9 : Hid (Below n0 w0 ((((((wc.setCell ⟨B, 0, none⟩ (.int .i64 side)).setCell ⟨B, 1, none⟩ (.int .i64 slot)).setCell ⟨B, 2, none⟩ (.int .i64 d.pos)).setCell ⟨B, 3, none⟩ (.string d.name)).setCell ⟨B, 4, none⟩ (.int .i64 d.play)).setCell ⟨B, 5, none⟩ (.int .i64 0)) ∧ Caps ((((((wc.setCell ⟨B, 0, none⟩ (.int .i64 side)).setCell ⟨B, 1, none⟩ (.int .i64 slot)).setCell ⟨B, 2, none⟩ (.int .i64 d.pos)).setCell ⟨B, 3, none⟩ (.string d.name)).setCell ⟨B, 4, none⟩ (.int .i64 d.play)).setCell ⟨B, 5, none⟩ (.int .i64 0)) g t (some ⟨b, off, none⟩) k c p side slot ∧ Bk ((((((wc.setCell ⟨B, 0, none⟩ (.int .i64 side)).setCell ⟨B, 1, none⟩ (.int .i64 slot)).setCell ⟨B, 2, none⟩ (.int .i64 d.pos)).setCell ⟨B, 3, none⟩ (.string d.name)).setCell ⟨B, 4, none⟩ (.int .i64 d.play)).setCell ⟨B, 5, none⟩ (.int .i64 0)) B 107 (Sti.val ⟨side, slot, d.pos, d.name, d.play, 0⟩) ∧ J pre' ((((((wc.setCell ⟨B, 0, none⟩ (.int .i64 side)).setCell ⟨B, 1, none⟩ (.int .i64 slot)).setCell ⟨B, 2, none⟩ (.int .i64 d.pos)).setCell ⟨B, 3, none⟩ (.string d.name)).setCell ⟨B, 4, none⟩ (.int .i64 d.play)).setCell ⟨B, 5, none⟩ (.int .i64 0))) :=
                ⟨Hb.out.grown hg9 (by have := Hbk.out.lt; omega) (fun r e => by have := Option.some.inj e; omega), Hc.out.grown hg9 (fun r e => by have := Option.some.inj e; omega), ((((((Hbk.out.set_ 0 _).set_ 1 _).set_ 2 _).set_ 3 _).set_ 4 _).set_ 5 _), HJ.out _ _ _ Hj.out hg9⟩
              clear hg9 Hb Hc Hbk Hj Hbx x1 x3 x4 y3 y4 z0 z1 z2 z3 z4 z5 f0 f1 f2 f3 f4 f5
              generalize ((((((wc.setCell ⟨B, 0, none⟩ (.int .i64 side)).setCell ⟨B, 1, none⟩ (.int .i64 slot)).setCell ⟨B, 2, none⟩ (.int .i64 d.pos)).setCell ⟨B, 3, none⟩ (.string d.name)).setCell ⟨B, 4, none⟩ (.int .i64 d.play)).setCell ⟨B, 5, none⟩ (.int .i64 0)) = W9 at F9 ⊢
              gi_wp2
              go_roundw
              case rel => exact ⟨i + 1, pre', _, by omega, by go_num, F9.out.2.2.2, F9.out.1, F9.out.2.1, F9.out.2.2.1, Hst2.out⟩
              case measure => simp [intOf]; omega
    · obtain rfl : i = k := by omega
      obtain ⟨wo, hwo⟩ : ∃ wo : World, wo = wr := ⟨_, rfl⟩
      rw [← hwo] at Hb Hbk Hc Hj ⊢
      clear hwo
      have hst2 : stintsL t l p side slot = pre ++ (if now.fr < p then [⟨now.side, now.slot, now.pos, now.name, now.fr, p⟩] else []) := by
        rw [Hst.out, List.drop_of_length_le (by rw [Hk.out]; exact Nat.le_refl _), stLoop]
      have Hst2 := Lib.hid hst2; clear hst2
      have y2 : wo.cell? ⟨g + 2, 0, none⟩ = some (.int .i64 p) := by rw [Hc.out.bp.cell]; rfl
      have z5 : wo.cell? ⟨B, 5, none⟩ = some (.int .i64 now.to) := by rw [Hbk.out.cell]; rfl
      have w5 : wo.frozen? ⟨B, 5, none⟩ = false := Hbk.out.frozen 5
      have hg5 : wo.grownBy (wo.setCell ⟨B, 5, none⟩ (.int .i64 p)) (some B) := only_set (World.grownBy.refl wo (some B)) 5 _
      have F3 : Hid (Bk (wo.setCell ⟨B, 5, none⟩ (.int .i64 p)) B 107 (Sti.val ⟨now.side, now.slot, now.pos, now.name, now.fr, p⟩) ∧ J pre (wo.setCell ⟨B, 5, none⟩ (.int .i64 p))) :=
        ⟨Hbk.out.set_ 5 _, HJ.out _ _ _ Hj.out hg5⟩
      clear hg5
      gi_upto_region 11 with fail
      generalize (wo.setCell ⟨B, 5, none⟩ (.int .i64 p)) = W3 at F3 ⊢
      clear y2 z5 w5 Hb Hbk Hc Hj
      have z0 : W3.cell? ⟨B, 0, none⟩ = some (.int .i64 now.side) := by rw [F3.out.1.cell]; rfl
      have z1 : W3.cell? ⟨B, 1, none⟩ = some (.int .i64 now.slot) := by rw [F3.out.1.cell]; rfl
      have z2 : W3.cell? ⟨B, 2, none⟩ = some (.int .i64 now.pos) := by rw [F3.out.1.cell]; rfl
      have z3 : W3.cell? ⟨B, 3, none⟩ = some (.string now.name) := by rw [F3.out.1.cell]; rfl
      have z4 : W3.cell? ⟨B, 4, none⟩ = some (.int .i64 now.fr) := by rw [F3.out.1.cell]; rfl
      have z5 : W3.cell? ⟨B, 5, none⟩ = some (.int .i64 p) := by rw [F3.out.1.cell]; rfl
      by_cases hlt : now.fr < p
      · obtain ⟨fn, tmps, assign, body, hy, hR⟩ := HY.out pre ⟨now.side, now.slot, now.pos, now.name, now.fr, p⟩ W3 F3.out.2 (by rw [Hst2.out, if_pos hlt]; simp) F3.out.1.lt
        have Hlt := Lib.hid hlt
        dsimp only [L.Sti.val] at hy
        gi_wp2
        refine hR.mono ?_
        rintro e W4 ⟨rfl, hJ4, hkp⟩
        gi_wp2
        go_end0
        rw [Hst2.out, if_pos Hlt.out]
        exact ⟨⟨_, rfl⟩, hJ4⟩
      · have Hlt := Lib.hid hlt
        gi_wp2
        go_end0
        rw [Hst2.out, if_neg (by have := Hlt.out; omega), List.append_nil]
        exact ⟨⟨_, rfl⟩, F3.out.2⟩
end Go.Proofs.YtmagppkclnebjaaGreatDoor
