/- slices.DeleteFunc at the stints, whole. -/
import Derived.Test.YtmagppkclnebjaaGreatDoorA15
set_option linter.unusedVariables false
set_option linter.unusedSimpArgs false
set_option linter.unusedSimpArgs false
namespace Go.Proofs.YtmagppkclnebjaaGreatDoor
open Go.RowKit
open L

theorem idxF_spec {α : Type} (p : α → Bool) (l : List α) (d : α) (i : Nat) (h : idxF p l = (i : Int)) : i < l.length ∧ p (l.getD i d) = true ∧ ∀ j, j < i → p (l.getD j d) = false := by
  unfold idxF at h
  cases hf : l.findIdx? p with
  | none => rw [hf] at h; simp at h
  | some k =>
    rw [hf] at h
    have hk : k = i := by simp at h; omega
    subst hk
    rw [List.findIdx?_eq_some_iff_getElem] at hf
    obtain ⟨h1, h2, h3⟩ := hf
    refine ⟨h1, by simpa [List.getD, List.getElem?_eq_getElem h1] using h2, fun j hj => ?_⟩
    have := h3 j hj
    simpa [List.getD, List.getElem?_eq_getElem (show j < l.length by omega)] using this
theorem idxF_neg {α : Type} (p : α → Bool) (l : List α) (h : idxF p l = -1) : ∀ x ∈ l, p x = false := by
  unfold idxF at h
  cases hf : l.findIdx? p with
  | none => simpa [List.findIdx?_eq_none_iff] using hf
  | some k => rw [hf] at h; simp at h
theorem idxF_cases {α : Type} (p : α → Bool) (l : List α) : idxF p l = -1 ∨ ∃ i : Nat, idxF p l = (i : Int) := by
  unfold idxF
  cases l.findIdx? p with
  | none => exact .inl rfl
  | some k => exact .inr ⟨k, rfl⟩
theorem flatS_take (L : List Sti) (i : Nat) (h : i ≤ L.length) : flatS (L.take i) = (flatS L).take (i * 6) := by
  have e : flatS L = flatS (L.take i) ++ flatS (L.drop i) := by rw [← flatS_append, List.take_append_drop]
  rw [e, List.take_left' (by rw [flatS_len, List.length_take]; omega)]
def set6 (xs : List Value) (o : Nat) (x : Sti) : List Value :=
  (((((xs.set o (.int .i64 x.side)).set (o + 1) (.int .i64 x.slot)).set (o + 2) (.int .i64 x.pos)).set (o + 3) (.string x.name)).set (o + 4) (.int .i64 x.fr)).set (o + 5) (.int .i64 x.to)
theorem set6_behind (a b c d e f : Value) (t : List Value) (o : Nat) (x : Sti) : set6 (a :: b :: c :: d :: e :: f :: t) (o + 6) x = a :: b :: c :: d :: e :: f :: set6 t o x := rfl
theorem flatS_set : ∀ (L : List Sti) (i : Nat) (x : Sti), i < L.length → flatS (L.set i x) = set6 (flatS L) (i * 6) x
  | [], i, _, h => by simp at h
  | s :: R, 0, x, _ => by simp [flatS, L.Sti.val, set6]
  | s :: R, i + 1, x, h => by
    have ih := flatS_set R i x (by simpa using h)
    have e : ∀ (y : Sti) (Q : List Sti), flatS (y :: Q) = .int .i64 y.side :: .int .i64 y.slot :: .int .i64 y.pos :: .string y.name :: .int .i64 y.fr :: .int .i64 y.to :: flatS Q := fun y Q => by simp [flatS, L.Sti.val]
    rw [List.set_cons_succ, e, e, ih, show (i + 1) * 6 = i * 6 + 6 by omega, set6_behind]
theorem own_set6 {w : World} {base g n cap : Nat} {xs : List Value} (h : w.ownsRow base 107 6 (.slice (some ⟨g, 0, none⟩) n cap) n xs) (o : Nat) (x : Sti) :
    ((((((w.setCell ⟨g, o, none⟩ (.int .i64 x.side)).setCell ⟨g, o + 1, none⟩ (.int .i64 x.slot)).setCell ⟨g, o + 2, none⟩ (.int .i64 x.pos)).setCell ⟨g, o + 3, none⟩ (.string x.name)).setCell ⟨g, o + 4, none⟩ (.int .i64 x.fr)).setCell ⟨g, o + 5, none⟩ (.int .i64 x.to)).ownsRow base 107 6 (.slice (some ⟨g, 0, none⟩) n cap) n (set6 xs o x) ∧ w.grownBy ((((((w.setCell ⟨g, o, none⟩ (.int .i64 x.side)).setCell ⟨g, o + 1, none⟩ (.int .i64 x.slot)).setCell ⟨g, o + 2, none⟩ (.int .i64 x.pos)).setCell ⟨g, o + 3, none⟩ (.string x.name)).setCell ⟨g, o + 4, none⟩ (.int .i64 x.fr)).setCell ⟨g, o + 5, none⟩ (.int .i64 x.to)) (some g) := by
  obtain ⟨h1, g1⟩ := h.stored o (.int .i64 x.side)
  obtain ⟨h2, g2⟩ := h1.stored (o + 1) (.int .i64 x.slot)
  obtain ⟨h3, g3⟩ := h2.stored (o + 2) (.int .i64 x.pos)
  obtain ⟨h4, g4⟩ := h3.stored (o + 3) (.string x.name)
  obtain ⟨h5, g5⟩ := h4.stored (o + 4) (.int .i64 x.fr)
  obtain ⟨h6, g6⟩ := h5.stored (o + 5) (.int .i64 x.to)
  exact ⟨h6, g1.trans (g2.trans (g3.trans (g4.trans (g5.trans g6))))⟩
theorem own_sets {base g n cap : Nat} : ∀ (vs : List Value) (o : Nat) {w : World} {xs : List Value}, w.ownsRow base 107 6 (.slice (some ⟨g, 0, none⟩) n cap) n xs →
    ∃ xs', (w.setCells g o vs).ownsRow base 107 6 (.slice (some ⟨g, 0, none⟩) n cap) n xs' ∧ w.grownBy (w.setCells g o vs) (some g) ∧ xs'.take o = xs.take o
  | [], _, w, xs, h => ⟨xs, h, World.grownBy.refl w _, rfl⟩
  | v :: r, o, w, xs, h => by
    obtain ⟨h1, g1⟩ := h.stored o v
    obtain ⟨xs', h2, g2, h3⟩ := own_sets r (o + 1) h1
    refine ⟨xs', h2, g1.trans g2, ?_⟩
    have h4 := congrArg (List.take o) h3
    rw [List.take_take, List.take_take, Nat.min_eq_left (by omega)] at h4
    rw [h4, List.take_set_of_le (Nat.le_refl _)]
theorem own_cut {w : World} {base g n cap : Nat} {xs : List Value} (h : w.ownsRow base 107 6 (.slice (some ⟨g, 0, none⟩) n cap) n xs) (i : Nat) (hi : i ≤ n) : w.ownsRow base 107 6 (.slice (some ⟨g, 0, none⟩) i cap) i (xs.take (i * 6)) := by
  have hl := h.1
  rcases h.2 with ⟨h', _⟩ | ⟨g', cap', cur, h', hb, hg, hnc, hcm, hcs, htake⟩
  · simp at h'
  · simp only [Value.slice.injEq, Option.some.injEq, Addr.mk.injEq, and_true, true_and] at h'
    obtain ⟨rfl, rfl⟩ := h'
    refine ⟨by rw [List.length_take]; omega, .inr ⟨g, cap, cur, rfl, hb, hg, by omega, hcm, hcs, ?_⟩⟩
    rw [← htake, List.take_take, Nat.min_eq_left (by omega)]
theorem own_there {w : World} {base g n cap : Nat} {xs : List Value} (h : w.ownsRow base 107 6 (.slice (some ⟨g, 0, none⟩) n cap) n xs) (o m : Nat) (hm : o + m ≤ n * 6) : w.there g o m := fun j hj => by
  refine ⟨?_, h.frozenAt _⟩
  rw [h.cellAt _ (by omega), List.getElem?_eq_getElem (by rw [h.1]; omega)]
  rfl
theorem run_clear_sti (w : World) (ty : TypeId) (g o n c : Nat) (hn : 0 < n) (ht : w.there g o (n * 6)) :
    ∃ vs : List Value, (Builtin.clear_ #[86] ty #[.slice (some ⟨g, o, none⟩) n c]).run Tryz.prog w = .ok (.tuple #[]) (w.setCells g o vs) := by
  obtain ⟨m, rfl⟩ : ∃ m, n = m + 1 := ⟨n - 1, by omega⟩
  refine ⟨(Builtin.zeroCells #[.int .i64 0, .int .i64 0, .int .i64 0, .string { data := #[] }, .int .i64 0, .int .i64 0] (m + 1)).toList, ?_⟩
  have hz : ∀ W, (zeroValue 107).run Tryz.prog W = .ok (.agg #[.int .i64 0, .int .i64 0, .int .i64 0, .string { data := #[] }, .int .i64 0, .int .i64 0]) W := fun W => by kernel_rfl
  have hst := run_storeCells_cells (P := Tryz.prog) g o (Builtin.zeroCells #[.int .i64 0, .int .i64 0, .int .i64 0, .string { data := #[] }, .int .i64 0, .int .i64 0] (m + 1)).toList 0 w ?_ ?_ ?_
  · simp only [Nat.add_zero] at hst
    simp [Builtin.clear_, run_underlying Tryz.underlying86, hz, Value.cells, hst]
  · intro j hj
    exact (ht j (by simpa [Builtin.zeroCells] using hj)).1
  · intro j hj
    exact (ht j (by simpa [Builtin.zeroCells] using hj)).2
  · intro v hv
    simp [Builtin.zeroCells] at hv
    obtain ⟨a, _, rfl⟩ := hv
    have h6 : a % 6 = 0 ∨ a % 6 = 1 ∨ a % 6 = 2 ∨ a % 6 = 3 ∨ a % 6 = 4 ∨ a % 6 = 5 := by omega
    rcases h6 with h | h | h | h | h | h <;> rw [h] <;> rfl

theorem wpList_clear {P : Program} {ops : Array Oper} {rest : List Oper} {o : Oper} {a : Act} {w : World} {Q : Exit → Act → World → Prop} (hgd : o.guard = none) (x : Operand) (t : TypeId) (ho : o.op = .call { callee := .builtin .clear, args := #[x], argTypes := #[t] })
    (v : Value) (hx : a.eval x = v) (w' : World) (hrun : (Builtin.clear_ #[t] o.type #[v]).run P w = .ok (.tuple #[]) w') (h : wpList P ops Q rest (a.put o.dst (.tuple #[])) w') : wpList P ops Q (o :: rest) a w := by
  refine wpList_plain hgd fun K hK => ?_
  unfold Oper.wp execOp
  simp only [ho, resolve, invoke, builtin, Sem.run_bind, Sem.run_pure, Result.andThen_ok, List.map_toArray, List.map_cons, List.map_nil, hx, hrun]
  exact hK _ _ h
theorem pitchersOf_eq (S : List Sti) (side : Int) : pitchersOf S side = S.filter fun s => !goes side s := rfl
theorem filter_step (S : List Sti) (side : Int) (j : Nat) (hj : j < S.length) : (S.take (j + 1)).filter (fun s => !goes side s) = (S.take j).filter (fun s => !goes side s) ++ (if goes side (S.getD j noSti) then [] else [S.getD j noSti]) := by
  rw [List.take_succ_eq_append_getElem hj, List.filter_append]
  congr 1
  have : S.getD j noSti = S[j] := by simp [List.getD, List.getElem?_eq_getElem hj]
  rw [this]
  cases hg : goes side S[j] <;> simp [hg]
theorem size107 (w : World) : (sizeOf 107).run Tryz.prog w = .ok 6 w := by kernel_rfl
theorem info107s : (Tryz.prog.info? 107).map (·.size) = some 6 := by kernel_rfl

set_option maxHeartbeats 4000000 in
set_option maxRecDepth 100000 in
theorem deleteFunc_any (side : Int) (bx base : Nat) (S : List Sti) (v : Value) (w : World) (hle : S.length ≤ 100000) (how : w.ownsRow base 107 6 v S.length (flatS S)) (hbx : Bk w bx 3 #[.int .i64 side]) :
    Calls Tryz.prog 99 #[v, .func (.func 100) #[] #[.pointer (some ⟨bx, 0, none⟩)]] w fun x w' =>
      (∃ v', x = .returned v' ∧ w'.ownsRow base 107 6 v' (pitchersOf S side).length (flatS (pitchersOf S side)) ∧ v'.ownBlock = v.ownBlock) ∧ w.grownBy w' v.ownBlock := by
  obtain ⟨A, c, rfl⟩ : ∃ A c, v = .slice A S.length c := by
    rcases how.2 with ⟨h1, h2⟩ | ⟨g, cap, cur, h1, _⟩
    · exact ⟨none, 0, by rw [h1, h2]⟩
    · exact ⟨_, _, h1⟩
  have hrd := RdS.of_own how
  obtain ⟨n, hn⟩ : ∃ n, S.length = n := ⟨_, rfl⟩
  rw [hn] at how hle ⊢
  have hix := indexSti_any side bx S A n c w hn hle hrd hbx
  rcases idxF_cases (goes side) S with hneg | ⟨i0, hpos⟩
  · rw [hneg] at hix
    have hf : pitchersOf S side = S := by
      rw [pitchersOf_eq, List.filter_eq_self]
      intro x hx
      rw [idxF_neg _ _ hneg x hx]; rfl
    have Hix := Lib.hid hix; have Hf := Lib.hid hf; have How := Lib.hid how; have Hn := Lib.hid hn
    clear hix hf how hrd hbx hneg hn
    go_enter Tryz.func99, Tryz.ntmps99
    go_wp2_with (go_at_call 133; refine Hix.out.mono ?_; rintro e w1 ⟨rfl, hb1⟩)
    go_ret
    rw [Hf.out, Hn.out]
    have hg : w.grownBy w1 none := ⟨hb1.os, hb1.tape, hb1.output, hb1.size, fun i hi _ => hb1.block i hi⟩
    refine ⟨⟨_, rfl, How.out.kept hg ?_, rfl⟩, ⟨hb1.os, hb1.tape, hb1.output, hb1.size, fun i hi _ => hb1.block i hi⟩⟩
    cases hv : Value.ownBlock (.slice A n c) with
    | none => exact .inl rfl
    | some r => exact .inr (by simp)
  · rw [hpos] at hix
    obtain ⟨hi0, hgo, hbefore⟩ := idxF_spec (goes side) S noSti i0 hpos
    obtain ⟨g, rfl, hgb, hcn⟩ : ∃ g, A = some ⟨g, 0, none⟩ ∧ base ≤ g ∧ n ≤ c := by
      rcases how.2 with ⟨_, h2⟩ | ⟨g, cap, cur, h1, h2, _, h3, _⟩
      · omega
      · injection h1 with e1 e2 e3
        exact ⟨g, e1, h2, by omega⟩
    have hgbx : g ≠ bx := fun e => by
      obtain ⟨cs, hcs⟩ := row_is how (b := g) rfl
      unfold Bk at hbx
      rw [e, hbx] at hcs
      cases hcs
    have hf0 : S.take i0 = (S.take (i0 + 1)).filter fun s => !goes side s := by
      rw [filter_step S side i0 hi0, hgo, if_pos rfl, List.append_nil]
      symm
      rw [List.filter_eq_self]
      intro x hx
      obtain ⟨j, hj, rfl⟩ := List.getElem_of_mem hx
      have hji : j < i0 := by have := hj; rw [List.length_take] at this; omega
      have := hbefore j hji
      rw [show S.getD j noSti = S[j] by simp [List.getD, List.getElem?_eq_getElem (show j < S.length by omega)]] at this
      simp [this]
    have Hix := Lib.hid hix; have How := Lib.hid how; have Hn := Lib.hid hn; have Hbx := Lib.hid hbx; have Hf0 := Lib.hid hf0; have Hrd := Lib.hid hrd
    have hi0n : i0 < n := by omega
    clear hix how hrd hbx hn hf0 hgo hbefore hpos hi0
    have hs1 : ∀ (i : Nat), i < n → ∀ W, (Instr.sliceAt 86 (.slice (some ⟨g, 0, none⟩) n c) (some (.int .i64 i)) none none).run Tryz.prog W = .ok (.slice (some ⟨g, i * 6, none⟩) (n - i) (c - i)) W := fun i hi W => by
      have h1 : i ≤ c := by omega
      have h2 : ¬ c = i := by omega
      have h3 := size107 W
      simp [Instr.sliceAt, Instr.slice, run_underlying Tryz.underlying86, Instr.sliceBounds, Instr.sliceBound, asIntOf, h3, Addr.add_mid, h1, h2, hcn, Nat.le_of_lt hi]
    have hs2 : ∀ (i : Nat), i < n → ∀ W, (Instr.sliceAt 86 (.slice (some ⟨g, 0, none⟩) n c) none (some (.int .i64 i)) none).run Tryz.prog W = .ok (.slice (some ⟨g, 0, none⟩) i c) W := fun i hi W => by
      have h1 : i ≤ c := by omega
      have h3 := size107 W
      simp [Instr.sliceAt, Instr.slice, run_underlying Tryz.underlying86, Instr.sliceBounds, Instr.sliceBound, asIntOf, h3, Addr.add, h1, hcn, Nat.le_of_lt hi]
    have Hs1 := Lib.hid hs1; have Hs2 := Lib.hid hs2; clear hs1 hs2
    have hm1 : ((i0 : Int) == -1) = false := by simp
    go_enter Tryz.func99, Tryz.ntmps99
    go_upto_region 5 with (go_at_call 133; refine Hix.out.mono ?_; rintro e w1 ⟨rfl, hb1⟩)
    have F : Hid (w1.ownsRow base 107 6 (.slice (some ⟨g, 0, none⟩) n c) n (flatS S) ∧ Bk w1 bx 3 #[.int .i64 side] ∧ w.grownBy w1 (some g)) := by
      refine ⟨How.out.kept (show w.grownBy w1 none from ⟨hb1.os, hb1.tape, hb1.output, hb1.size, fun i hi _ => hb1.block i hi⟩) (.inr (by simp [Value.ownBlock])), Hbx.out.below hb1 Hbx.out.lt, ⟨hb1.os, hb1.tape, hb1.output, hb1.size, fun i hi _ => hb1.block i hi⟩⟩
    clear hb1
    go_loopw [5, 6] (fun a b wr => ∃ (i j : Nat) (L : List Sti), i < j ∧ j ≤ n ∧ a = .int .i64 i ∧ b = .int .i64 j ∧ L.length = n ∧ wr.ownsRow base 107 6 (.slice (some ⟨g, 0, none⟩) n c) n (flatS L) ∧ Bk wr bx 3 #[.int .i64 side] ∧ w.grownBy wr (some g) ∧
      L.take i = (S.take j).filter (fun s => !goes side s) ∧ L.drop j = S.drop j) (fun _ b _ => n - (intOf b).toNat)
    case atStart => exact ⟨i0, i0 + 1, S, by omega, by omega, rfl, by go_num, Hn.out, F.out.1, F.out.2.1, F.out.2.2, Hf0.out, rfl⟩
    case round =>
      obtain ⟨i, j, L, hij, hj, rfl, rfl, hLn, hown, hbx, hgr, hft, hdr⟩ := hrel
      clear F
      have HLn := Lib.hid hLn; have Hown := Lib.hid hown; have Hbx' := Lib.hid hbx; have Hgr := Lib.hid hgr; have Hft := Lib.hid hft; have Hdr := Lib.hid hdr
      clear hLn hown hbx hgr hft hdr
      by_cases hjn : j < n
      · have hjS : j < S.length := by rw [Hn.out]; exact hjn
        have hjL : j < L.length := by rw [HLn.out]; exact hjn
        have hLS : L.getD j noSti = S.getD j noSti := by
          have h1 : (L.drop j)[0]? = (S.drop j)[0]? := by rw [Hdr.out]
          rw [List.getElem?_drop, List.getElem?_drop, Nat.add_zero] at h1
          simp [List.getD, h1]
        obtain ⟨b, off, hbb, hc⟩ := (RdS.of_own Hown.out) j hjL
        cases hbb
        rw [hLS] at hc
        have hstep := filter_step S side j hjS
        generalize S.getD j noSti = e at hc hstep
        have Hstep := Lib.hid hstep
        clear hLS hstep
        have c0 : wr.cell? ⟨g, 0 + j * 6, none⟩ = some (.int .i64 e.side) := hc 0 (by omega)
        have c1 : wr.cell? ⟨g, 0 + j * 6 + 1, none⟩ = some (.int .i64 e.slot) := hc 1 (by omega)
        have c2 : wr.cell? ⟨g, 0 + j * 6 + 2, none⟩ = some (.int .i64 e.pos) := hc 2 (by omega)
        have c3 : wr.cell? ⟨g, 0 + j * 6 + 3, none⟩ = some (.string e.name) := hc 3 (by omega)
        have c4 : wr.cell? ⟨g, 0 + j * 6 + 4, none⟩ = some (.int .i64 e.fr) := hc 4 (by omega)
        have c5 : wr.cell? ⟨g, 0 + j * 6 + 5, none⟩ = some (.int .i64 e.to) := hc 5 (by omega)
        rw [Nat.zero_add] at c0 c1 c2 c3 c4 c5
        clear hc
        have hbv := Bk.new wr 107 #[.int .i64 e.side, .int .i64 e.slot, .int .i64 e.pos, .string e.name, .int .i64 e.fr, .int .i64 e.to]
        have hal := World.grownBy_alloc wr (.cells #[.int .i64 e.side, .int .i64 e.slot, .int .i64 e.pos, .string e.name, .int .i64 e.fr, .int .i64 e.to] 107) (some g)
        have F2 : Hid ((wr.alloc (.cells #[.int .i64 e.side, .int .i64 e.slot, .int .i64 e.pos, .string e.name, .int .i64 e.fr, .int .i64 e.to] 107)).ownsRow base 107 6 (.slice (some ⟨g, 0, none⟩) n c) n (flatS L) ∧ Bk (wr.alloc (.cells #[.int .i64 e.side, .int .i64 e.slot, .int .i64 e.pos, .string e.name, .int .i64 e.fr, .int .i64 e.to] 107)) bx 3 #[.int .i64 side] ∧ w.grownBy (wr.alloc (.cells #[.int .i64 e.side, .int .i64 e.slot, .int .i64 e.pos, .string e.name, .int .i64 e.fr, .int .i64 e.to] 107)) (some g) ∧ Bk (wr.alloc (.cells #[.int .i64 e.side, .int .i64 e.slot, .int .i64 e.pos, .string e.name, .int .i64 e.fr, .int .i64 e.to] 107)) wr.heap.size 107 #[.int .i64 e.side, .int .i64 e.slot, .int .i64 e.pos, .string e.name, .int .i64 e.fr, .int .i64 e.to]) :=
          ⟨Hown.out.alloc _, Hbx'.out.alloc _, Hgr.out.trans hal, hbv⟩
        have hgl : g < wr.heap.size := (Hown.out.lt g rfl).2
        clear hbv hal
        go_upto_region 8 with fail
        generalize (wr.alloc (.cells #[.int .i64 e.side, .int .i64 e.slot, .int .i64 e.pos, .string e.name, .int .i64 e.fr, .int .i64 e.to] 107)) = W2 at F2 ⊢
        generalize wr.heap.size = vb at F2 hgl ⊢
        clear c0 c1 c2 c3 c4 c5 Hown Hbx' Hgr
        have b0 : W2.cell? ⟨vb, 0, none⟩ = some (.int .i64 e.side) := by rw [F2.out.2.2.2.cell]; rfl
        have b1 : W2.cell? ⟨vb, 1, none⟩ = some (.int .i64 e.slot) := by rw [F2.out.2.2.2.cell]; rfl
        have b2 : W2.cell? ⟨vb, 2, none⟩ = some (.int .i64 e.pos) := by rw [F2.out.2.2.2.cell]; rfl
        have b3 : W2.cell? ⟨vb, 3, none⟩ = some (.string e.name) := by rw [F2.out.2.2.2.cell]; rfl
        have b4 : W2.cell? ⟨vb, 4, none⟩ = some (.int .i64 e.fr) := by rw [F2.out.2.2.2.cell]; rfl
        have b5 : W2.cell? ⟨vb, 5, none⟩ = some (.int .i64 e.to) := by rw [F2.out.2.2.2.cell]; rfl
        have hcl := goes_any e bx side W2 F2.out.2.1
        generalize hq : goes side e = q at hcl
        have Hq := Lib.hid hq; have Hcl := Lib.hid hcl; clear hq hcl
        cases q with
        | true =>
          go_wp2_with (go_at_call 100; refine Hcl.out.mono ?_; rintro e' w3 ⟨rfl, hb3⟩)
          have hg3 : W2.grownBy w3 none := ⟨hb3.os, hb3.tape, hb3.output, hb3.size, fun i hi _ => hb3.block i hi⟩
          go_roundw
          case rel =>
            refine ⟨i, j + 1, L, by omega, by omega, rfl, by go_num, HLn.out, F2.out.1.kept hg3 (.inr (by simp [Value.ownBlock])), F2.out.2.1.below hb3 F2.out.2.1.lt, F2.out.2.2.1.trans ⟨hb3.os, hb3.tape, hb3.output, hb3.size, fun i hi _ => hb3.block i hi⟩, ?_, ?_⟩
            · rw [Hft.out, Hstep.out, Hq.out, if_pos rfl, List.append_nil]
            · have := congrArg (List.drop 1) Hdr.out
              rwa [List.drop_drop, List.drop_drop] at this
          case measure => simp [intOf]; omega
        | false =>
          have Hone : Hid ((#[.int .i64 e.side, .int .i64 e.slot, .int .i64 e.pos, .string e.name, .int .i64 e.fr, .int .i64 e.to] : Array Value).all (·.oneCell') = true) := by show _ = _; simp [Value.oneCell']
          have hqi : (0 : Int) ≤ (i : Int) := by omega
          have hqn : (i : Int) < (n : Int) := by omega
          have hth : ∀ w3, Below W2.heap.size W2 w3 → w3.ownsRow base 107 6 (.slice (some ⟨g, 0, none⟩) n c) n (flatS L) := fun w3 hb3 =>
            F2.out.1.kept (show W2.grownBy w3 none from ⟨hb3.os, hb3.tape, hb3.output, hb3.size, fun i hi _ => hb3.block i hi⟩) (.inr (by simp [Value.ownBlock]))
          have Hth := Lib.hid hth; clear hth
          go_upto_region 9 with (go_at_call 100; refine Hcl.out.mono ?_; rintro e' w3 ⟨rfl, hb3⟩)
          have F3 : Hid (w3.ownsRow base 107 6 (.slice (some ⟨g, 0, none⟩) n c) n (flatS L) ∧ Bk w3 bx 3 #[.int .i64 side] ∧ w.grownBy w3 (some g) ∧ Bk w3 vb 107 #[.int .i64 e.side, .int .i64 e.slot, .int .i64 e.pos, .string e.name, .int .i64 e.fr, .int .i64 e.to]) :=
            ⟨Hth.out _ hb3, F2.out.2.1.below hb3 F2.out.2.1.lt, F2.out.2.2.1.trans ⟨hb3.os, hb3.tape, hb3.output, hb3.size, fun i hi _ => hb3.block i hi⟩, F2.out.2.2.2.below hb3 F2.out.2.2.2.lt⟩
          clear hb3 F2 b0 b1 b2 b3 b4 b5 Hth Hcl
          have b0 : w3.cell? ⟨vb, 0, none⟩ = some (.int .i64 e.side) := by rw [F3.out.2.2.2.cell]; rfl
          have b1 : w3.cell? ⟨vb, 1, none⟩ = some (.int .i64 e.slot) := by rw [F3.out.2.2.2.cell]; rfl
          have b2 : w3.cell? ⟨vb, 2, none⟩ = some (.int .i64 e.pos) := by rw [F3.out.2.2.2.cell]; rfl
          have b3 : w3.cell? ⟨vb, 3, none⟩ = some (.string e.name) := by rw [F3.out.2.2.2.cell]; rfl
          have b4 : w3.cell? ⟨vb, 4, none⟩ = some (.int .i64 e.fr) := by rw [F3.out.2.2.2.cell]; rfl
          have b5 : w3.cell? ⟨vb, 5, none⟩ = some (.int .i64 e.to) := by rw [F3.out.2.2.2.cell]; rfl
          have hLi : i < L.length := by rw [HLn.out]; omega
          have hcl6 : ∀ r, r < 6 → w3.cell? ⟨g, i * 6 + r, none⟩ = (L.getD i noSti).val[r]? := fun r hr => by
            rw [F3.out.1.cellAt _ (by omega), flatS_at L i r hLi hr]
          generalize L.getD i noSti = y at hcl6
          have d0 : w3.cell? ⟨g, i * 6, none⟩ = some (.int .i64 y.side) := hcl6 0 (by omega)
          have d1 : w3.cell? ⟨g, i * 6 + 1, none⟩ = some (.int .i64 y.slot) := hcl6 1 (by omega)
          have d2 : w3.cell? ⟨g, i * 6 + 2, none⟩ = some (.int .i64 y.pos) := hcl6 2 (by omega)
          have d3 : w3.cell? ⟨g, i * 6 + 3, none⟩ = some (.string y.name) := hcl6 3 (by omega)
          have d4 : w3.cell? ⟨g, i * 6 + 4, none⟩ = some (.int .i64 y.fr) := hcl6 4 (by omega)
          have d5 : w3.cell? ⟨g, i * 6 + 5, none⟩ = some (.int .i64 y.to) := hcl6 5 (by omega)
          have f0 := F3.out.1.frozenAt (i * 6)
          have f1 := F3.out.1.frozenAt (i * 6 + 1)
          have f2 := F3.out.1.frozenAt (i * 6 + 2)
          have f3 := F3.out.1.frozenAt (i * 6 + 3)
          have f4 := F3.out.1.frozenAt (i * 6 + 4)
          have f5 := F3.out.1.frozenAt (i * 6 + 5)
          clear hcl6
          go_wp2
          obtain ⟨ho9, hg9⟩ := own_set6 F3.out.1 (i * 6) e
          go_roundw
          case rel =>
            refine ⟨i + 1, j + 1, L.set i e, by omega, by omega, by go_num, by go_num, by rw [List.length_set]; exact HLn.out, by rw [flatS_set _ _ _ (by omega)]; exact ho9, (hg9.block _ F3.out.2.1.lt (fun h => hgbx (Option.some.inj h).symm)).trans F3.out.2.1, F3.out.2.2.1.trans hg9, ?_, ?_⟩
            · rw [Hstep.out, Hq.out, ← Hft.out, List.take_succ_eq_append_getElem (by rw [List.length_set]; exact hLi), List.getElem_set_self, List.take_set_of_le (Nat.le_refl _)]
              rfl
            · have := congrArg (List.drop 1) Hdr.out
              rw [List.drop_drop, List.drop_drop] at this
              rw [List.drop_set_of_lt (by omega)]
              exact this
          case measure => simp [intOf]; omega
      · obtain rfl : j = n := by omega
        have hLi : i < L.length := by rw [HLn.out]; omega
        have hpo : pitchersOf S side = L.take i := by
          rw [Hft.out, List.take_of_length_le (by rw [Hn.out]; exact Nat.le_refl _)]; rfl
        have Hpo := Lib.hid hpo; clear hpo
        obtain ⟨vs, hcl⟩ := run_clear_sti wr 0 g (i * 6) (j - i) (c - i) (by omega) (own_there Hown.out _ _ (by omega))
        obtain ⟨xs', ho', hg', htk⟩ := own_sets vs (i * 6) Hown.out
        have Hcl := Lib.hid hcl; have Ho' := Lib.hid ho'; have Hg' := Lib.hid hg'; have Htk := Lib.hid htk
        clear hcl ho' hg' htk
        have hs1 := Hs1.out i hij
        have hs2 := Hs2.out i hij
        obtain ⟨wo, hwo⟩ : ∃ wo : World, wo = wr := ⟨_, rfl⟩
        rw [← hwo] at Hown Hbx' Hgr Hcl Ho' Hg' ⊢
        clear hwo
        go_wp2_with (refine wpList_clear rfl (.tmp 38) 86 rfl _ rfl _ Hcl.out ?_)
        go_ret
        rw [Hpo.out, List.length_take, HLn.out, Nat.min_eq_left (by omega)]
        refine ⟨⟨_, rfl, ?_, rfl⟩, Hgr.out.trans Hg'.out⟩
        rw [flatS_take _ _ (by omega), ← Htk.out]
        exact own_cut Ho'.out i (by omega)
end Go.Proofs.YtmagppkclnebjaaGreatDoor
