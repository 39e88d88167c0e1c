/- Texts of this seat, joined: The reference: Swap · The facts of LineupSplits · dugoutlaw03.LineupSplits: the walk · dugoutlaw03.LineupSplits: it returns true at every game and number of plays. -/
import Derived.Test.YtmagppkclnebjaaGreatDoorQx
import Derived.Laws.AppendOwnNone
import Derived.Deep.Cut
import Derived.Deep.CutBlock
import Derived.Test.YtmagppkclnebjaaGreatDoorH4
import Derived.Test.YtmagppkclnebjaaGreatDoorQd
import Derived.Test.YtmagppkclnebjaaGreatDoorD7
import Derived.Test.YtmagppkclnebjaaGreatDoorB9
import Derived.Deep.CutRange
import Derived.BigQuiet
set_option linter.unusedVariables false
set_option linter.unusedSimpArgs false
set_option linter.unusedSimpArgs false
set_option linter.unusedVariables false
namespace Go.Proofs.YtmagppkclnebjaaGreatDoor
open Go.RowKit
open L

theorem info144size : ∃ i, Tryz.prog.info? 144 = some i ∧ i.size = 5 := by
 have := size144D
 cases h : Tryz.prog.info? 144 with
 | none => rw [h] at this; simp at this
 | some i => rw [h] at this; exact ⟨i, rfl, by simpa using this⟩
theorem run_slice_to47 (A : Option Addr) (n c k : Nat) (hk : k ≤ c) : ∀ W, (Instr.slice 47 (.slice A n c) none (some (.int .i64 k)) none).run Tryz.prog W = .ok (.slice A k c) W := by
 obtain ⟨i, hi, h5⟩ := info144size
 intro W
 cases A <;> simp [Instr.slice, run_underlying Tryz.underlying47, Instr.sliceBounds, hi, h5, go_sem, hk, Addr.add]
theorem run_slice_from47 (A : Option Addr) (n c k : Nat) (hk : k ≤ n) (hnc : n ≤ c) :
 ∃ A', (∀ W, (Instr.slice 47 (.slice A n c) (some (.int .i64 k)) none none).run Tryz.prog W = .ok (.slice A' (n - k) (c - k)) W) ∧ (k < n → ∀ b off, A = some ⟨b, off, none⟩ → A' = some ⟨b, off + k * 5, none⟩) ∧ (A' = none → A = none) := by
 obtain ⟨i, hi, h5⟩ := info144size
 refine ⟨if c = k then A else Option.map (fun x => x.add (k * 5)) A, fun W => ?_, fun h b off e => ?_, fun e => ?_⟩
 ·
  simp [Instr.slice, run_underlying Tryz.underlying47, Instr.sliceBounds, hi, h5, go_sem, hk]
 ·
  rw [if_neg (by omega), e]
  simp [Addr.add]
 ·
  split at e
  ·
   exact e
  ·
   simpa using e
theorem ins_at (c : Chg) : ∀ (out : List Chg) (a : Nat), a ≤ out.length → (∀ j, j < a → after c (out.getD j noChg) = true) → (a = out.length ∨ after c (out.getD a noChg) = false) → insC c out = out.take a ++ [c] ++ out.drop a
 | [], 0, _, _, _ => rfl
 | [], a + 1, h, _, _ => by simp at h
 | d :: r, 0, _, _, h => by
  have h2 : after c d = false := by
   rcases h with h | h
   ·
    simp at h
   ·
    simpa using h
  rw [insC, if_neg (by rw [h2]; simp)]
  rfl
 | d :: r, a + 1, h0, h1, h2 => by
  have hd : after c d = true := by simpa using h1 0 (by omega)
  rw [insC, if_pos hd, ins_at c r a (by simpa using h0) (fun j hj => by simpa using h1 (j + 1) (by omega)) (by simpa using h2)]
  rfl
theorem swapR_take (l : List Chg) (k : Nat) (hk : k < l.length) : (l.take (k + 1)).foldl (fun out c => insC c.other out) [] = insC (l.getD k noChg).other ((l.take k).foldl (fun out c => insC c.other out) []) := by
 rw [List.take_succ_eq_append_getElem hk, List.foldl_append]; simp [List.getD, List.getElem?_eq_getElem hk]

set_option maxRecDepth 100000 in
/-- append of a list of changes to a row of the call's own, in a region that draws its order -/
theorem step_appC {ops : Array Oper} {o : Oper} {a : Act} {w : World} {K : Act → World → Prop} {Q : Exit → Act → World → Prop} {E : Prop} (hgd : o.guard = none) (s x : Operand)
 (ho : o.op = .call { callee := .builtin .append, args := #[s, x], argTypes := #[47, 47] }) (v : Value) (hs : a.eval s = v)
 (C : Option Addr) (m c : Nat) (S : List Chg) (hx : a.eval x = .slice C m c) (base n : Nat) (xs : List Value) (hown : w.ownsRow base 144 5 v n xs) (hm : S.length = m) (hr : RdC w C S) (hnil : C = none → m = 0 ∧ c = 0) (hn : n + m ≤ 100000) (hbase : base ≤ w.heap.size)
 (h : ∀ v' w', w'.ownsRow base 144 5 v' (n + m) (xs ++ flatC S) → w.grownBy w' v.ownBlock → K (a.put o.dst v') w') :
 if Region.wanted o (yielded ops a.tmps) = true then Oper.wp Tryz.prog o a w K Q else E := by
 have hw : Region.wanted o (yielded ops a.tmps) = true := by simp [Region.wanted, hgd]
 rw [if_pos hw]
 obtain ⟨i0, hi, hz0, hz1, hz2⟩ := info_parts info144
 have key : ∃ v' w', (Builtin.append_ #[47, 47] o.type #[v, .slice C m c]).run Tryz.prog w = .ok v' w' ∧ w'.ownsRow base 144 5 v' (n + m) (xs ++ flatC S) ∧ w.grownBy w' v.ownBlock := by
  cases C with
  | none =>
   obtain ⟨rfl, rfl⟩ := hnil rfl
   have h0 : S = [] := List.eq_nil_of_length_eq_zero hm
   refine ⟨v, w, run_append_owned_none (P := Tryz.prog) (w := w) base 47 o.type 144 i0 5 Tryz.underlying47 hi v n xs hown, by rw [h0]; simpa [flatC] using hown, ⟨rfl, rfl, rfl, Nat.le_refl _, fun _ _ _ => rfl⟩⟩
  | some ad =>
   have hcell : ∀ j u, (flatC S)[j]? = some u → w.cell? (ad.add j) = some u := fun j u hu => by
    have hj : j < S.length * 5 := by rw [← flatC_len]; exact (List.getElem?_eq_some_iff.1 hu).1
    obtain ⟨b, off, e, hc⟩ := hr (j / 5) (by omega)
    injection e with e
    subst e
    exact rdc_cells hr j u hu
   obtain ⟨v', w', h1, h2, h3, _⟩ := run_append_own (P := Tryz.prog) (w := w) base 47 o.type 144 i0 (.agg #[.int .i64 0, .int .i64 0, .int .i64 0, .string { data := #[] }, .int .i64 0]) 5 48 Tryz.underlying47 hi hz0 hz1 hz2 rfl (by decide) v n xs hown ad m c (flatC S) (by rw [flatC_len, hm]) hcell (flatC_one5 S) (by unfold maxLen; omega) (by omega) hbase
   exact ⟨v', w', h1, h2, h3⟩
 obtain ⟨v', w', hrun, h2, h3⟩ := key
 unfold Oper.wp execOp
 simp only [ho, resolve, invoke, builtin, Sem.run_bind, Sem.run_pure, Result.andThen_ok, List.map_toArray, List.map_cons, List.map_nil, hs, hx, hrun]
 exact h v' w' h2 h3
theorem own_ge {W : World} {base : Nat} {e : TypeId} {size n : Nat} {v : Value} {xs : List Value} (h : W.ownsRow base e size v n xs) : ∀ q, v.ownBlock = some q → base ≤ q := by
 rcases h.2 with ⟨rfl, _⟩ | ⟨g, cap, cur, rfl, hg, _⟩ <;> intro q e
 ·
  simp [Value.ownBlock] at e
 ·
  have h9 := Option.some.inj (show some g = some q from e)
  omega
theorem rdc_oneX {X : World} {g : Nat} {e : Chg} (h : Bk X g 144 e.val) : RdC X (some ⟨g, 0, none⟩) [e] := fun k hk => by
 obtain rfl : k = 0 := by simpa using hk
 exact ⟨g, 0, rfl, fun j hj => by simpa using h.cell j⟩
theorem bk_grown {W W' : World} {r : Option Nat} {g : Nat} {t : TypeId} {cs : Array Value} (h : Bk W g t cs) (hg : W.grownBy W' r) (hr : ∀ q, r = some q → g ≠ q) : Bk W' g t cs :=
 (hg.block g h.lt (fun e => hr g e.symm rfl)).trans h
theorem keep_own5 (base : Nat) (n : Nat) (v : Value) (xs : List Value) : Keep (fun W => W.ownsRow base 144 5 v n xs) := keep_own base 144 5 n v xs
theorem getD_take (out : List Chg) (k : Nat) (hk : k < out.length) : out.getD k noChg ∈ out := by simp [List.getD, List.getElem?_eq_getElem hk]

set_option maxHeartbeats 8000000 in
set_option maxRecDepth 100000 in
theorem refSwap_any (t : Tms) (ht : t.ok) (T : Array Value) (hT : T = t.cells.toArray) (l : List Chg) (A : Option Addr) (n c : Nat) (hn : l.length = n) (hle : n ≤ 64) (hside : ∀ d ∈ l, d.side = 0 ∨ d.side = 1) (w : World) (hl : RdC w A l) :
 Calls Tryz.prog 59 #[.agg T, .slice A n c] w fun x w' => (∃ B d, x = .returned (.tuple #[.agg t.swap.cells.toArray, .slice B (swapR l).length d]) ∧ RdC w' B (swapR l)) ∧ Below w.heap.size w w' := by
 have F : Hid (Below w.heap.size w ((w.alloc (.cells T 46)).alloc (.cells #[.string { data := #[] }, .string { data := #[] }, .string { data := #[] }, .string { data := #[] }, .string { data := #[] }, .string { data := #[] }, .string { data := #[] }, .string { data := #[] }, .string { data := #[] }, .int .i64 0, .int .i64 0, .int .i64 0, .int .i64 0, .int .i64 0, .int .i64 0, .int .i64 0, .int .i64 0, .int .i64 0, .string { data := #[] }, .string { data := #[] }, .string { data := #[] }, .string { data := #[] }, .string { data := #[] }, .string { data := #[] }, .string { data := #[] }, .string { data := #[] }, .string { data := #[] }, .int .i64 0, .int .i64 0, .int .i64 0, .int .i64 0, .int .i64 0, .int .i64 0, .int .i64 0, .int .i64 0, .int .i64 0] 46)) ∧ Bk ((w.alloc (.cells T 46)).alloc (.cells #[.string { data := #[] }, .string { data := #[] }, .string { data := #[] }, .string { data := #[] }, .string { data := #[] }, .string { data := #[] }, .string { data := #[] }, .string { data := #[] }, .string { data := #[] }, .int .i64 0, .int .i64 0, .int .i64 0, .int .i64 0, .int .i64 0, .int .i64 0, .int .i64 0, .int .i64 0, .int .i64 0, .string { data := #[] }, .string { data := #[] }, .string { data := #[] }, .string { data := #[] }, .string { data := #[] }, .string { data := #[] }, .string { data := #[] }, .string { data := #[] }, .string { data := #[] }, .int .i64 0, .int .i64 0, .int .i64 0, .int .i64 0, .int .i64 0, .int .i64 0, .int .i64 0, .int .i64 0, .int .i64 0] 46)) w.heap.size 46 t.cells.toArray ∧ Bk ((w.alloc (.cells T 46)).alloc (.cells #[.string { data := #[] }, .string { data := #[] }, .string { data := #[] }, .string { data := #[] }, .string { data := #[] }, .string { data := #[] }, .string { data := #[] }, .string { data := #[] }, .string { data := #[] }, .int .i64 0, .int .i64 0, .int .i64 0, .int .i64 0, .int .i64 0, .int .i64 0, .int .i64 0, .int .i64 0, .int .i64 0, .string { data := #[] }, .string { data := #[] }, .string { data := #[] }, .string { data := #[] }, .string { data := #[] }, .string { data := #[] }, .string { data := #[] }, .string { data := #[] }, .string { data := #[] }, .int .i64 0, .int .i64 0, .int .i64 0, .int .i64 0, .int .i64 0, .int .i64 0, .int .i64 0, .int .i64 0, .int .i64 0] 46)) (w.heap.size + 1) 46 #[.string { data := #[] }, .string { data := #[] }, .string { data := #[] }, .string { data := #[] }, .string { data := #[] }, .string { data := #[] }, .string { data := #[] }, .string { data := #[] }, .string { data := #[] }, .int .i64 0, .int .i64 0, .int .i64 0, .int .i64 0, .int .i64 0, .int .i64 0, .int .i64 0, .int .i64 0, .int .i64 0, .string { data := #[] }, .string { data := #[] }, .string { data := #[] }, .string { data := #[] }, .string { data := #[] }, .string { data := #[] }, .string { data := #[] }, .string { data := #[] }, .string { data := #[] }, .int .i64 0, .int .i64 0, .int .i64 0, .int .i64 0, .int .i64 0, .int .i64 0, .int .i64 0, .int .i64 0, .int .i64 0]) := by
  refine ⟨bt_alloc (bt_new w _) _, by rw [← hT]; exact (Bk.new w 46 T).alloc _, ?_⟩
  have := Bk.new (w.alloc (.cells T 46)) 46 #[.string { data := #[] }, .string { data := #[] }, .string { data := #[] }, .string { data := #[] }, .string { data := #[] }, .string { data := #[] }, .string { data := #[] }, .string { data := #[] }, .string { data := #[] }, .int .i64 0, .int .i64 0, .int .i64 0, .int .i64 0, .int .i64 0, .int .i64 0, .int .i64 0, .int .i64 0, .int .i64 0, .string { data := #[] }, .string { data := #[] }, .string { data := #[] }, .string { data := #[] }, .string { data := #[] }, .string { data := #[] }, .string { data := #[] }, .string { data := #[] }, .string { data := #[] }, .int .i64 0, .int .i64 0, .int .i64 0, .int .i64 0, .int .i64 0, .int .i64 0, .int .i64 0, .int .i64 0, .int .i64 0]
  rwa [World.size_alloc] at this
 have Ht := Lib.hid ht; have Hn := Lib.hid hn; have Hl := Lib.hid hl; have Hsd := Lib.hid hside
 clear hT ht hn hl hside
 go_enter Tryz.func59, Tryz.ntmps59
 go_upto_region 1 with fail
 generalize (w.alloc (.cells T 46)).alloc (.cells #[.string { data := #[] }, .string { data := #[] }, .string { data := #[] }, .string { data := #[] }, .string { data := #[] }, .string { data := #[] }, .string { data := #[] }, .string { data := #[] }, .string { data := #[] }, .int .i64 0, .int .i64 0, .int .i64 0, .int .i64 0, .int .i64 0, .int .i64 0, .int .i64 0, .int .i64 0, .int .i64 0, .string { data := #[] }, .string { data := #[] }, .string { data := #[] }, .string { data := #[] }, .string { data := #[] }, .string { data := #[] }, .string { data := #[] }, .string { data := #[] }, .string { data := #[] }, .int .i64 0, .int .i64 0, .int .i64 0, .int .i64 0, .int .i64 0, .int .i64 0, .int .i64 0, .int .i64 0, .int .i64 0] 46) = W0 at F ⊢
 go_upto_region 3 with fail
 go_loopw [6, 7] (fun v i wr => ∃ (k : Nat) (out : List Chg), k ≤ n ∧ i = .int .i64 k ∧ Below w.heap.size w wr ∧ Bk wr w.heap.size 46 t.cells.toArray ∧ Bk wr (w.heap.size + 1) 46 #[.string { data := #[] }, .string { data := #[] }, .string { data := #[] }, .string { data := #[] }, .string { data := #[] }, .string { data := #[] }, .string { data := #[] }, .string { data := #[] }, .string { data := #[] }, .int .i64 0, .int .i64 0, .int .i64 0, .int .i64 0, .int .i64 0, .int .i64 0, .int .i64 0, .int .i64 0, .int .i64 0, .string { data := #[] }, .string { data := #[] }, .string { data := #[] }, .string { data := #[] }, .string { data := #[] }, .string { data := #[] }, .string { data := #[] }, .string { data := #[] }, .string { data := #[] }, .int .i64 0, .int .i64 0, .int .i64 0, .int .i64 0, .int .i64 0, .int .i64 0, .int .i64 0, .int .i64 0, .int .i64 0] ∧ wr.ownsRow (w.heap.size + 2) 144 5 v k (flatC out) ∧ out = (l.take k).foldl (fun out c => insC c.other out) [] ∧ out.length = k) (fun _ i _ => n - (intOf i).toNat)
 case atStart => exact ⟨0, [], Nat.zero_le _, rfl, F.out.1, F.out.2.1, F.out.2.2, World.ownsRow_nil _ _ _ _, rfl, rfl⟩
 case round =>
  clear F
  obtain ⟨k, out, hk, rfl, hb, hbk, hbz, hown, hout, hol⟩ := hrel
  have F1 := Lib.hid (And.intro hb (And.intro hbk (And.intro hbz hown)))
  have Hout := Lib.hid hout; have Hol := Lib.hid hol
  clear hb hbk hbz hown hout hol
  by_cases hkn : k < n
  ·
   obtain ⟨b, off, rfl, hc⟩ := Hl.out k (by rw [Hn.out]; exact hkn)
   have hb0 : b < w.heap.size := World.block_lt_of_cell? w ⟨b, off + k * 5 + 0, none⟩ (u := .int .i64 (l.getD k noChg).side) (by rw [hc 0 (by omega)]; rfl)
   have hds := Hsd.out _ (getD_inC l k (by rw [Hn.out]; exact hkn))
   have hst := swapR_take l k (by rw [Hn.out]; exact hkn)
   replace hc : ∀ j, j < 5 → wr.cell? ⟨b, off + k * 5 + j, none⟩ = (l.getD k noChg).val[j]? := fun j hj => by
    rw [F1.out.1.cell (p := ⟨b, off + k * 5 + j, none⟩) hb0]; exact hc j hj
   generalize l.getD k noChg = d at hc hds hst
   rw [← Hout.out] at hst
   have Hst := Lib.hid hst
   have c0 : wr.cell? ⟨b, off + k * 5, none⟩ = some (.int .i64 d.side) := hc 0 (by omega)
   have c1 : wr.cell? ⟨b, off + k * 5 + 1, none⟩ = some (.int .i64 d.play) := hc 1 (by omega)
   have c2 : wr.cell? ⟨b, off + k * 5 + 2, none⟩ = some (.int .i64 d.slot) := hc 2 (by omega)
   have c3 : wr.cell? ⟨b, off + k * 5 + 3, none⟩ = some (.string d.name) := hc 3 (by omega)
   have c4 : wr.cell? ⟨b, off + k * 5 + 4, none⟩ = some (.int .i64 d.pos) := hc 4 (by omega)
   have u1 : IntKind.i64.wrap (1 - d.side) = 1 - d.side := IntWalk.i64_in _ (by omega)
   clear hc hds hst
   have q0 : (0 : Int) ≤ (k : Int) := by omega
   have q1 : (k : Int) < (n : Int) := by omega
   obtain ⟨hx6, A6, c6, rfl, hr6⟩ := SlK.of_own F1.out.2.2.2
   obtain ⟨_, hkc, hnil6⟩ := own_cap F1.out.2.2.2
   have Hkc := Lib.hid hkc; have Hnil6 := Lib.hid hnil6
   clear hx6 hr6 hkc hnil6
   have hlt := F1.out.2.1.lt
   have hlz := F1.out.2.2.1.lt
   go_upto_region 7 with fail
   obtain ⟨P, kP, hP, oP⟩ : ∃ P : World → Prop, Keep P ∧ P (wr.alloc (.cells #[.int .i64 (1 - d.side), .int .i64 d.play, .int .i64 d.slot, .string d.name, .int .i64 d.pos] 144)) ∧ Hid (∀ X, P X → (Below w.heap.size w X ∧ Bk X w.heap.size 46 t.cells.toArray ∧ Bk X (w.heap.size + 1) 46 #[.string { data := #[] }, .string { data := #[] }, .string { data := #[] }, .string { data := #[] }, .string { data := #[] }, .string { data := #[] }, .string { data := #[] }, .string { data := #[] }, .string { data := #[] }, .int .i64 0, .int .i64 0, .int .i64 0, .int .i64 0, .int .i64 0, .int .i64 0, .int .i64 0, .int .i64 0, .int .i64 0, .string { data := #[] }, .string { data := #[] }, .string { data := #[] }, .string { data := #[] }, .string { data := #[] }, .string { data := #[] }, .string { data := #[] }, .string { data := #[] }, .string { data := #[] }, .int .i64 0, .int .i64 0, .int .i64 0, .int .i64 0, .int .i64 0, .int .i64 0, .int .i64 0, .int .i64 0, .int .i64 0]) ∧ X.ownsRow (w.heap.size + 2) 144 5 (.slice A6 k c6) k (flatC out) ∧ Bk X wr.heap.size 144 #[.int .i64 (1 - d.side), .int .i64 d.play, .int .i64 d.slot, .string d.name, .int .i64 d.pos]) :=
    ⟨fun X => (Below w.heap.size w X ∧ Bk X w.heap.size 46 t.cells.toArray ∧ Bk X (w.heap.size + 1) 46 #[.string { data := #[] }, .string { data := #[] }, .string { data := #[] }, .string { data := #[] }, .string { data := #[] }, .string { data := #[] }, .string { data := #[] }, .string { data := #[] }, .string { data := #[] }, .int .i64 0, .int .i64 0, .int .i64 0, .int .i64 0, .int .i64 0, .int .i64 0, .int .i64 0, .int .i64 0, .int .i64 0, .string { data := #[] }, .string { data := #[] }, .string { data := #[] }, .string { data := #[] }, .string { data := #[] }, .string { data := #[] }, .string { data := #[] }, .string { data := #[] }, .string { data := #[] }, .int .i64 0, .int .i64 0, .int .i64 0, .int .i64 0, .int .i64 0, .int .i64 0, .int .i64 0, .int .i64 0, .int .i64 0]) ∧ X.ownsRow (w.heap.size + 2) 144 5 (.slice A6 k c6) k (flatC out) ∧ Bk X wr.heap.size 144 #[.int .i64 (1 - d.side), .int .i64 d.play, .int .i64 d.slot, .string d.name, .int .i64 d.pos], keep_and (keep_and (keep_below w) (keep_and (keep_bk _ _ _) (keep_bk _ _ _))) (keep_and (keep_own5 _ _ _ _) (keep_bk _ _ _)),
     ⟨⟨bt_alloc F1.out.1 _, F1.out.2.1.alloc _, F1.out.2.2.1.alloc _⟩, F1.out.2.2.2.alloc _, Bk.new wr 144 _⟩, fun _ h => h⟩
   clear F1 c0 c1 c2 c3 c4
   generalize (wr.alloc (.cells #[.int .i64 (1 - d.side), .int .i64 d.play, .int .i64 d.slot, .string d.name, .int .i64 d.pos] 144)) = W1 at hP ⊢
   generalize wr.heap.size = gc at oP ⊢
   obtain ⟨e, he⟩ : ∃ e : Chg, e = d.other := ⟨_, rfl⟩
   have He : Hid (e.val = #[.int .i64 (1 - d.side), .int .i64 d.play, .int .i64 d.slot, .string d.name, .int .i64 d.pos]) := by show _ = _; rw [he]; rfl
   rw [← he] at Hst
   clear he
   rw [← He.out] at oP
   have Hrd : Hid (∀ X, P X → RdC X A6 out) := fun X h => RdC.of_slk (SlK.of_own (oP.out X h).2.1)
   have Hre : Hid (∀ X, P X → X.rangeAt gc 0 e.val.toList) := fun X h j v hv => by
    rw [(oP.out X h).2.2.cell, Nat.zero_add]
    rw [Array.getElem?_toList] at hv
    exact hv
   have Hsz : Hid ((Tryz.prog.info? 144).map (·.size) = some e.val.toList.length) := by show _ = _; rw [He.out]; exact size144D
   have Haft : Hid (∀ (p : Chg) W, Calls Tryz.prog 83 #[.agg e.val.toList.toArray, .agg p.val.toList.toArray] W fun x w' => x = .returned (.bool (after e p)) ∧ Below W.heap.size W w') := fun p W => by
    rw [Array.toArray_toList, Array.toArray_toList]; exact after_any e p W
   generalize hce : e.val.toList = ce at Hre Hsz Haft
   have Hce := Lib.hid hce; clear hce
   go_upto_block 2 with fail
   go_cut [9] from 10 to 49 (fun s9 w2 => ∃ a : Nat, s9 = .int .i64 a ∧ P w2 ∧ a ≤ k ∧ (∀ j, j < a → after e (out.getD j noChg) = true) ∧ (a = k ∨ after e (out.getD a noChg) = false))
   case first =>
    go_wp2_with fail
    go_loopw [9] (fun i w2 => ∃ a : Nat, i = .int .i64 a ∧ P w2 ∧ a ≤ k ∧ ∀ j, j < a → after e (out.getD j noChg) = true) (fun i _ => k - (intOf i).toNat)
    case atStart => exact ⟨0, rfl, hP, Nat.zero_le _, fun j hj => by omega⟩
    case round =>
     clear hP
     obtain ⟨a, rfl, hPa, hak, hja⟩ := hrel
     have Hja := Lib.hid hja; clear hja
     rename_i wq
     have hPd := kP _ _ hPa (bt_drew (Below.refl _ _))
     by_cases hlt2 : a < k
     ·
      have d0 : decide ((a : Int) < (k : Int)) = true := decide_eq_true (by omega)
      have a0 : (0 : Int) ≤ (a : Int) := by omega
      have a1 : (a : Int) < (k : Int) := by omega
      have hRx : Hid (∃ b6 off6, A6 = some ⟨b6, off6, none⟩ ∧ ∀ X, P X → X.rangeAt b6 (off6 + a * 5) (out.getD a noChg).val.toList) := by
       obtain ⟨b6, off6, e6, _⟩ := Hrd.out _ hPa a (by rw [Hol.out]; exact hlt2)
       refine ⟨b6, off6, e6, fun X h j v hv => ?_⟩
       obtain ⟨b7, off7, e7, hc7⟩ := Hrd.out X h a (by rw [Hol.out]; exact hlt2)
       rw [e6] at e7
       injection e7 with e7
       injection e7 with e8 e9
       subst e8; subst e9
       rw [Array.getElem?_toList] at hv
       rw [hc7 j (Array.getElem?_eq_some_iff.1 hv).1]
       exact hv
      obtain ⟨b6, off6, rfl, hRx2⟩ := hRx.out
      have HRx := Lib.hid hRx2; clear hRx hRx2
      have Hax := Lib.hid (Haft.out (out.getD a noChg))
      have Hsx : Hid ((Tryz.prog.info? 144).map (·.size) = some (out.getD a noChg).val.toList.length) := size144D
      obtain ⟨r, hr⟩ : ∃ r, r = after e (out.getD a noChg) := ⟨_, rfl⟩
      rw [← hr] at Hax
      have Hr := Lib.hid hr; clear hr
      generalize (out.getD a noChg).val.toList = cx at HRx Hax Hsx
      go_upto_region 8 with fail
      refine wp_region_held_drew (S := P) (by kernel_rfl) (hPd) (fun hHeld => ?_)
      refine tkE (i := 0) rfl ?_
      refine tkE (i := 1) rfl ?_
      refine tkE (i := 2) rfl ?_
      refine tkE (i := 3) rfl ?_
      refine tkE (i := 4) rfl ?_
      refine ldE (i := 5) rfl rfl rfl (ce) (fun W h => Hre.out W h) Tryz.underlying144 rfl (Hsz.out) ?_
      refine tkE (i := 6) rfl ?_
      refine tkE (i := 7) rfl ?_
      refine tkE (i := 8) rfl ?_
      refine ldE (i := 9) rfl rfl rfl (cx) (fun W h => HRx.out W h) Tryz.underlying144 rfl (Hsx.out) ?_
      refine rdE (i := 10) rfl (fun K hK => ?_)
      go_simp
      (go_at_call 83; refine (Hax.out _).mono ?_; rintro y w3 ⟨rfl, hb3⟩)
      go_wp2_with fail
      refine onE hK (kP _ _ hHeld hb3) (fun hHeld => ?_)
      clear hK K
      refine tkE (i := 11) rfl ?_
      refine wpAnyH_done (by kernel_rfl) ?_ _
      cases r
      ·
       go_wp2
       go_meet
       exact ⟨a, rfl, hHeld, hak, Hja.out, .inr Hr.out.symm⟩
      ·
       go_wp2
       go_roundw
       case rel =>
        refine ⟨a + 1, by go_num, hHeld, by omega, fun j hj => ?_⟩
        rcases Nat.lt_succ_iff_lt_or_eq.1 hj with h1 | rfl
        ·
         exact Hja.out j h1
        ·
         exact Hr.out.symm
       case measure => simp [intOf]; omega
     ·
      obtain rfl : a = k := by omega
      have d0 : decide ((a : Int) < (a : Int)) = false := decide_eq_false (by omega)
      go_upto_region 8 with fail
      refine wp_region_held_drew (S := P) (by kernel_rfl) (hPd) (fun hHeld => ?_)
      refine tkE (i := 0) rfl ?_
      refine tkE (i := 1) rfl ?_
      refine tkE (i := 2) rfl ?_
      refine tkE (i := 3) rfl ?_
      refine tkE (i := 4) rfl ?_
      refine skE (i := 5) rfl ?_
      refine skE (i := 6) rfl ?_
      refine skE (i := 7) rfl ?_
      refine skE (i := 8) rfl ?_
      refine skE (i := 9) rfl ?_
      refine skE (i := 10) rfl ?_
      refine tkE (i := 11) rfl ?_
      refine wpAnyH_done (by kernel_rfl) ?_ _
      go_wp2
      go_meet
      exact ⟨a, rfl, hHeld, hak, Hja.out, .inl rfl⟩
   case rest =>
    obtain ⟨a, rfl, hPa, hak, h1, h2⟩ := hcut
    clear hP
    have Hins : Hid (insC e out = out.take a ++ [e] ++ out.drop a) := ins_at e out a (by rw [Hol.out]; exact hak) h1 (by rw [Hol.out]; exact h2)
    clear h1 h2
    generalize wc = W2 at hPa ⊢
    have HPa := Lib.hid hPa; clear hPa
    have KP : Hid (∀ X, Below W2.heap.size W2 X → P X) := fun X h => kP _ _ HPa.out h
    have hB0 : Below W2.heap.size W2 W2.drew := bt_drew (Below.refl _ _)
    have s1 := run_slice_to47 A6 k c6 a (by have := Hkc.out; omega)
    obtain ⟨A7, s2, h71, h72⟩ := run_slice_from47 A6 k c6 a hak Hkc.out
    have Hra : Hid (∀ X, P X → RdC X A6 (out.take a)) := fun X h j hj => by
     rw [List.length_take] at hj
     obtain ⟨b, off, e, hc⟩ := Hrd.out X h j (by omega)
     refine ⟨b, off, e, fun i hi => ?_⟩
     rw [hc i hi]
     simp [List.getD, List.getElem?_take, show j < a by omega]
    have Hrb : Hid (∀ X, P X → RdC X A7 (out.drop a)) := fun X h j hj => by
     rw [List.length_drop, Hol.out] at hj
     obtain ⟨b, off, e, hc⟩ := Hrd.out X h (a + j) (by rw [Hol.out]; omega)
     refine ⟨b, off + a * 5, h71 (by omega) b off e, fun i hi => ?_⟩
     have h9 := hc i hi
     rw [show off + (a + j) * 5 + i = off + a * 5 + j * 5 + i by omega] at h9
     rw [h9]
     simp [List.getD, List.getElem?_drop]
    have Hn7 : Hid (A7 = none → k - a = 0 ∧ c6 - a = 0) := fun e => by
     have := Hnil6.out (h72 e); omega
    have Hn8 : Hid (A6 = none → a = 0 ∧ c6 = 0) := fun e => by
     have := Hnil6.out e; omega
    have Hwz : Hid (w.heap.size + 2 ≤ W2.heap.size) := (oP.out _ HPa.out).1.2.2.lt
    clear h71 h72 hlt hlz
    go_upto_region 10 with fail
    obtain rfl : ce = [.int .i64 (1 - d.side), .int .i64 d.play, .int .i64 d.slot, .string d.name, .int .i64 d.pos] := by rw [← Hce.out, He.out]
    have Hev : Hid (∀ (X : World) (g : Nat), Bk X g 144 #[.int .i64 (1 - d.side), .int .i64 d.play, .int .i64 d.slot, .string d.name, .int .i64 d.pos] → Bk X g 144 e.val) := fun X g h => by rw [He.out]; exact h
    have Hlen9 : Hid ((insC e out).length = k + 1) := by
     show _ = _
     rw [Hins.out]; simp [Hol.out]; omega
    have Hfin : Hid (∀ (X : World) (v : Value), Below W2.heap.size W2 X → X.ownsRow W2.heap.size 144 5 v (0 + a + 1 + (k - a)) ([] ++ flatC (out.take a) ++ flatC [e] ++ flatC (out.drop a)) → X.ownsRow (w.heap.size + 2) 144 5 v (k + 1) (flatC (insC e out))) := fun X v hb h => by
     have hh := own_base h Hwz.out
     rw [show 0 + a + 1 + (k - a) = k + 1 by omega] at hh
     rw [Hins.out, flatC_append, flatC_append]
     rw [List.nil_append] at hh
     exact hh
    refine wp_region_held_drew (S := (fun X => Below W2.heap.size W2 X)) (by kernel_rfl) (hB0) (fun hHeld => ?_)
    refine tkE (i := 1) rfl ?_
    refine tkE (i := 2) rfl ?_
    refine tkE (i := 3) rfl ?_
    refine tkE (i := 8) rfl ?_
    refine tkE (i := 9) rfl ?_
    refine tkE (i := 10) rfl ?_
    refine ldE (i := 5) rfl rfl rfl ([.int .i64 (1 - d.side), .int .i64 d.play, .int .i64 d.slot, .string d.name, .int .i64 d.pos]) (fun W h => Hre.out W (KP.out W h)) Tryz.underlying144 rfl (Hsz.out) ?_
    refine rdE2 (i := 0) (j := 6) rfl rfl (fun K hK => ?_) (fun K hK => ?_)
    ·
     go_simp
     have hQ0 : Below W2.heap.size W2 (W2.alloc (.cells #[] 144)).drew := bt_drew (bt_new W2 _)
     have hown0 : (W2.alloc (.cells #[] 144)).drew.ownsRow W2.heap.size 144 5 (.slice (some ⟨W2.heap.size, 0, none⟩) 0 0) 0 [] := World.ownsRow_made W2 #[] 0 (Nat.le_refl _) (Nat.zero_le _) rfl
     refine onE hK hQ0 (fun hHeld => ?_)
     clear hK K hHeld
     have hz0 : W2.heap.size < (W2.alloc (.cells #[] 144)).drew.heap.size := by rw [show (W2.alloc (.cells #[] 144)).drew.heap.size = (W2.alloc (.cells #[] 144)).heap.size from rfl, World.size_alloc]; omega
     generalize (W2.alloc (.cells #[] 144)).drew = WA at hQ0 hown0 hz0 ⊢
     refine rdE2 (i := 4) (j := 6) rfl rfl (fun K hK => ?_) (fun K hK => ?_)
     ·
      refine step_appC rfl _ _ rfl _ rfl A6 a c6 (out.take a) rfl W2.heap.size 0 [] hown0 (by rw [List.length_take, Hol.out]; omega) (Hra.out _ (KP.out _ hQ0)) Hn8.out (by omega) hQ0.size ?_
      intro v5 w5 hown5 hg5
      have hQ5 : Below W2.heap.size W2 w5 := hQ0.grown hg5 hQ0.size (own_ge hown0)
      refine onE hK hQ5 (fun hHeld => ?_)
      clear hK K hHeld
      refine rdE (i := 6) rfl (fun K hK => ?_)
      go_simp
      have hQ6 : Below W2.heap.size W2 (w5.alloc (.cells #[.int .i64 (1 - d.side), .int .i64 d.play, .int .i64 d.slot, .string d.name, .int .i64 d.pos] 144)) := bt_alloc hQ5 _
      refine onE hK hQ6 (fun hHeld => ?_)
      clear hK K hHeld
      have hown6 : (w5.alloc (.cells #[.int .i64 (1 - d.side), .int .i64 d.play, .int .i64 d.slot, .string d.name, .int .i64 d.pos] 144)).ownsRow W2.heap.size 144 5 v5 (0 + a) ([] ++ flatC (out.take a)) := hown5.alloc _
      have hb6 : Bk (w5.alloc (.cells #[.int .i64 (1 - d.side), .int .i64 d.play, .int .i64 d.slot, .string d.name, .int .i64 d.pos] 144)) w5.heap.size 144 #[.int .i64 (1 - d.side), .int .i64 d.play, .int .i64 d.slot, .string d.name, .int .i64 d.pos] := Bk.new w5 144 _

      generalize (w5.alloc (.cells #[.int .i64 (1 - d.side), .int .i64 d.play, .int .i64 d.slot, .string d.name, .int .i64 d.pos] 144)) = WX at hQ6 hown6 hb6 ⊢
      refine rdE (i := 7) rfl (fun K hK => ?_)
      refine step_appC rfl _ _ rfl _ rfl (some ⟨w5.heap.size, 0, none⟩) 1 1 [e] rfl W2.heap.size (0 + a) ([] ++ flatC (out.take a)) hown6 rfl (rdc_oneX (Hev.out _ _ hb6)) (fun h => by cases h) (by omega) hQ6.size ?_
      intro v7 w7 hown7 hg7
      have hQ7 : Below W2.heap.size W2 w7 := hQ6.grown hg7 hQ6.size (own_ge hown6)
      refine onE hK hQ7 (fun hHeld => ?_)
      clear hK K hHeld
      refine rdE (i := 11) rfl (fun K hK => ?_)
      refine step_appC rfl _ _ rfl _ rfl A7 (k - a) (c6 - a) (out.drop a) rfl W2.heap.size (0 + a + 1) ([] ++ flatC (out.take a) ++ flatC [e]) hown7 (by rw [List.length_drop, Hol.out]) (Hrb.out _ (KP.out _ hQ7)) Hn7.out (by omega) hQ7.size ?_
      intro v8 w8 hown8 hg8
      have hQ8 : Below W2.heap.size W2 w8 := hQ7.grown hg8 hQ7.size (own_ge hown7)
      refine onE hK hQ8 (fun hHeld => ?_)
      clear hK K hHeld
      have hHeld := hQ8
      refine tkE (i := 12) rfl ?_
      refine wpAnyH_done (by kernel_rfl) ?_ _
      have hown9 := Hfin.out _ _ hQ8 hown8
      have hP8 := oP.out _ (KP.out _ hQ8)
      have hl9 := Hlen9.out
      clear hown7 hown8 hg7 hg8 hQ7 s1 s2
      go_wp2_with fail
      go_roundw
      case rel =>
       exact ⟨k + 1, insC e out, by omega, by go_num, hP8.1.1, hP8.1.2.1, hP8.1.2.2, hown9, Hst.out.symm, hl9⟩
      case measure => simp [intOf]; omega
     ·
      go_simp
      have hQ6 : Below W2.heap.size W2 (WA.alloc (.cells #[.int .i64 (1 - d.side), .int .i64 d.play, .int .i64 d.slot, .string d.name, .int .i64 d.pos] 144)) := bt_alloc hQ0 _
      refine onE hK hQ6 (fun hHeld => ?_)
      clear hK K hHeld
      have hown6 : (WA.alloc (.cells #[.int .i64 (1 - d.side), .int .i64 d.play, .int .i64 d.slot, .string d.name, .int .i64 d.pos] 144)).ownsRow W2.heap.size 144 5 (.slice (some ⟨W2.heap.size, 0, none⟩) 0 0) 0 [] := hown0.alloc _
      have hb6 : Bk (WA.alloc (.cells #[.int .i64 (1 - d.side), .int .i64 d.play, .int .i64 d.slot, .string d.name, .int .i64 d.pos] 144)) WA.heap.size 144 #[.int .i64 (1 - d.side), .int .i64 d.play, .int .i64 d.slot, .string d.name, .int .i64 d.pos] := Bk.new WA 144 _
      generalize (WA.alloc (.cells #[.int .i64 (1 - d.side), .int .i64 d.play, .int .i64 d.slot, .string d.name, .int .i64 d.pos] 144)) = WB at hQ6 hown6 hb6 ⊢
      refine rdE (i := 4) rfl (fun K hK => ?_)
      refine step_appC rfl _ _ rfl _ rfl A6 a c6 (out.take a) rfl W2.heap.size 0 [] hown6 (by rw [List.length_take, Hol.out]; omega) (Hra.out _ (KP.out _ hQ6)) Hn8.out (by omega) hQ6.size ?_
      intro v5 w5 hown5 hg5
      have hQ5 : Below W2.heap.size W2 w5 := hQ6.grown hg5 hQ6.size (own_ge hown6)
      have hb5 : Bk w5 WA.heap.size 144 #[.int .i64 (1 - d.side), .int .i64 d.play, .int .i64 d.slot, .string d.name, .int .i64 d.pos] := bk_grown hb6 hg5 (fun q e => by have h9 := Option.some.inj (show some W2.heap.size = some q from e); omega)
      refine onE hK hQ5 (fun hHeld => ?_)
      clear hK K hHeld

      refine rdE (i := 7) rfl (fun K hK => ?_)
      refine step_appC rfl _ _ rfl _ rfl (some ⟨WA.heap.size, 0, none⟩) 1 1 [e] rfl W2.heap.size (0 + a) ([] ++ flatC (out.take a)) hown5 rfl (rdc_oneX (Hev.out _ _ hb5)) (fun h => by cases h) (by omega) hQ5.size ?_
      intro v7 w7 hown7 hg7
      have hQ7 : Below W2.heap.size W2 w7 := hQ5.grown hg7 hQ5.size (own_ge hown5)
      refine onE hK hQ7 (fun hHeld => ?_)
      clear hK K hHeld
      refine rdE (i := 11) rfl (fun K hK => ?_)
      refine step_appC rfl _ _ rfl _ rfl A7 (k - a) (c6 - a) (out.drop a) rfl W2.heap.size (0 + a + 1) ([] ++ flatC (out.take a) ++ flatC [e]) hown7 (by rw [List.length_drop, Hol.out]) (Hrb.out _ (KP.out _ hQ7)) Hn7.out (by omega) hQ7.size ?_
      intro v8 w8 hown8 hg8
      have hQ8 : Below W2.heap.size W2 w8 := hQ7.grown hg8 hQ7.size (own_ge hown7)
      refine onE hK hQ8 (fun hHeld => ?_)
      clear hK K hHeld
      have hHeld := hQ8
      refine tkE (i := 12) rfl ?_
      refine wpAnyH_done (by kernel_rfl) ?_ _
      have hown9 := Hfin.out _ _ hQ8 hown8
      have hP8 := oP.out _ (KP.out _ hQ8)
      have hl9 := Hlen9.out
      clear hown7 hown8 hg7 hg8 hQ7 s1 s2
      go_wp2_with fail
      go_roundw
      case rel =>
       exact ⟨k + 1, insC e out, by omega, by go_num, hP8.1.1, hP8.1.2.1, hP8.1.2.2, hown9, Hst.out.symm, hl9⟩
      case measure => simp [intOf]; omega
    ·
     go_simp
     have hQ0 : Below W2.heap.size W2 (W2.alloc (.cells #[.int .i64 (1 - d.side), .int .i64 d.play, .int .i64 d.slot, .string d.name, .int .i64 d.pos] 144)).drew := bt_drew (bt_new W2 _)
     have hb0 : Bk (W2.alloc (.cells #[.int .i64 (1 - d.side), .int .i64 d.play, .int .i64 d.slot, .string d.name, .int .i64 d.pos] 144)).drew W2.heap.size 144 #[.int .i64 (1 - d.side), .int .i64 d.play, .int .i64 d.slot, .string d.name, .int .i64 d.pos] := (Bk.new W2 144 _).drew
     refine onE hK hQ0 (fun hHeld => ?_)
     clear hK K hHeld
     have hz0 : W2.heap.size < (W2.alloc (.cells #[.int .i64 (1 - d.side), .int .i64 d.play, .int .i64 d.slot, .string d.name, .int .i64 d.pos] 144)).drew.heap.size := hb0.lt
     generalize (W2.alloc (.cells #[.int .i64 (1 - d.side), .int .i64 d.play, .int .i64 d.slot, .string d.name, .int .i64 d.pos] 144)).drew = WA at hQ0 hb0 hz0 ⊢
     refine rdE (i := 0) rfl (fun K hK => ?_)
     go_simp
     have hQ6 : Below W2.heap.size W2 (WA.alloc (.cells #[] 144)) := bt_alloc hQ0 _
     have hown6 : (WA.alloc (.cells #[] 144)).ownsRow W2.heap.size 144 5 (.slice (some ⟨WA.heap.size, 0, none⟩) 0 0) 0 [] := World.ownsRow_made WA #[] 0 hQ0.size (Nat.zero_le _) rfl
     have hb6 : Bk (WA.alloc (.cells #[] 144)) W2.heap.size 144 #[.int .i64 (1 - d.side), .int .i64 d.play, .int .i64 d.slot, .string d.name, .int .i64 d.pos] := hb0.alloc _
     refine onE hK hQ6 (fun hHeld => ?_)
     clear hK K hHeld
     generalize (WA.alloc (.cells #[] 144)) = WB at hQ6 hown6 hb6 ⊢
     refine rdE (i := 4) rfl (fun K hK => ?_)
     refine step_appC rfl _ _ rfl _ rfl A6 a c6 (out.take a) rfl W2.heap.size 0 [] hown6 (by rw [List.length_take, Hol.out]; omega) (Hra.out _ (KP.out _ hQ6)) Hn8.out (by omega) hQ6.size ?_
     intro v5 w5 hown5 hg5
     have hQ5 : Below W2.heap.size W2 w5 := hQ6.grown hg5 hQ6.size (own_ge hown6)
     have hb5 : Bk w5 W2.heap.size 144 #[.int .i64 (1 - d.side), .int .i64 d.play, .int .i64 d.slot, .string d.name, .int .i64 d.pos] := bk_grown hb6 hg5 (fun q e => by have h9 := Option.some.inj (show some WA.heap.size = some q from e); omega)
     refine onE hK hQ5 (fun hHeld => ?_)
     clear hK K hHeld

     refine rdE (i := 7) rfl (fun K hK => ?_)
     refine step_appC rfl _ _ rfl _ rfl (some ⟨W2.heap.size, 0, none⟩) 1 1 [e] rfl W2.heap.size (0 + a) ([] ++ flatC (out.take a)) hown5 rfl (rdc_oneX (Hev.out _ _ hb5)) (fun h => by cases h) (by omega) hQ5.size ?_
     intro v7 w7 hown7 hg7
     have hQ7 : Below W2.heap.size W2 w7 := hQ5.grown hg7 hQ5.size (own_ge hown5)
     refine onE hK hQ7 (fun hHeld => ?_)
     clear hK K hHeld
     refine rdE (i := 11) rfl (fun K hK => ?_)
     refine step_appC rfl _ _ rfl _ rfl A7 (k - a) (c6 - a) (out.drop a) rfl W2.heap.size (0 + a + 1) ([] ++ flatC (out.take a) ++ flatC [e]) hown7 (by rw [List.length_drop, Hol.out]) (Hrb.out _ (KP.out _ hQ7)) Hn7.out (by omega) hQ7.size ?_
     intro v8 w8 hown8 hg8
     have hQ8 : Below W2.heap.size W2 w8 := hQ7.grown hg8 hQ7.size (own_ge hown7)
     refine onE hK hQ8 (fun hHeld => ?_)
     clear hK K hHeld
     have hHeld := hQ8
     refine tkE (i := 12) rfl ?_
     refine wpAnyH_done (by kernel_rfl) ?_ _
     have hown9 := Hfin.out _ _ hQ8 hown8
     have hP8 := oP.out _ (KP.out _ hQ8)
     have hl9 := Hlen9.out
     clear hown7 hown8 hg7 hg8 hQ7 s1 s2
     go_wp2_with fail
     go_roundw
     case rel =>
      exact ⟨k + 1, insC e out, by omega, by go_num, hP8.1.1, hP8.1.2.1, hP8.1.2.2, hown9, Hst.out.symm, hl9⟩
     case measure => simp [intOf]; omega
  ·
   obtain rfl : k = n := by omega
   have e2 : Hid (swapR l = out) := by
    show _ = _
    rw [Hout.out, List.take_of_length_le (by rw [Hn.out]; exact Nat.le_refl _)]; rfl
   have hok2 : t.swap.ok := ⟨Ht.out.2, Ht.out.1⟩
   have Hb := Lib.hid (built46 t.swap hok2)
   have Hi0 : Hid ((Tryz.prog.info? 25).map (·.size) = some t.l0.cells.length) := by show _ = _; rw [LU.cells_len _ Ht.out.1]; kernel_rfl
   have Hi1 : Hid ((Tryz.prog.info? 25).map (·.size) = some t.l1.cells.length) := by show _ = _; rw [LU.cells_len _ Ht.out.2]; kernel_rfl
   have Hi2 := Lib.hid (info46s t.swap.cells.toArray.size (Tms.size36 t.swap hok2))
   have Hone := Lib.hid (Tms.oneCell t.swap)
   have Hs := Lib.hid (Tms.size36 t.swap hok2)
   have R0 : Hid (wr.rangeAt w.heap.size 0 t.l0.cells) := tms_range0 F1.out.2.1
   have R1 : Hid (wr.rangeAt w.heap.size 18 t.l1.cells) := tms_range1 Ht.out F1.out.2.1
   have Hth : Hid (wr.there (w.heap.size + 1) 0 t.swap.cells.toArray.size) := F1.out.2.2.1.there _ (by rw [Hs.out]; exact Nat.le_refl _)
   have Hfill : Hid (Bk (wr.setCells (w.heap.size + 1) 0 t.swap.cells) (w.heap.size + 1) 46 t.swap.cells.toArray) := by
    show Bk _ _ _ _
    simpa using F1.out.2.2.1.fill t.swap.cells.toArray (by rw [Hs.out]; rfl)
   obtain ⟨hx6, A6, c6, rfl, hr6⟩ := SlK.of_own F1.out.2.2.2
   have Hfar : Hid (RdC (wr.setCells (w.heap.size + 1) 0 t.swap.cells) A6 out) := by
    refine rdc_sets (RdC.of_slk ⟨hx6, A6, c6, rfl, hr6⟩) (fun a e => ?_) _
    subst e
    rcases F1.out.2.2.2.2 with ⟨h, _⟩ | ⟨g, cap, cur, h, hg, _⟩
    ·
     simp at h
    ·
     injection h with h
     injection h with h
     subst h
     show g ≠ w.heap.size + 1
     omega
   clear hx6 hr6
   have e0 : t.swap.l0 = t.l1 := rfl
   have e1 : t.swap.l1 = t.l0 := rfl
   rw [e0, e1] at Hb
   clear hok2 e0 e1
   generalize t.l0.cells = c0 at R0 Hi0 Hb
   generalize t.l1.cells = c1 at R1 Hi1 Hb
   have e3 : Hid ((swapR l).length = k) := by show _ = _; rw [e2.out]; exact Hol.out
   go_wp2_with (first
    | (refine wpList_load_cells rfl 25 _ rfl w.heap.size 0 rfl c0 (fun j hj => by rw [List.getElem?_eq_getElem hj]; exact R0.out j _ (List.getElem?_eq_getElem hj)) _ Tryz.underlying25 rfl Hi0.out ?_)
    | (refine wpList_load_cells rfl 25 _ rfl w.heap.size 18 rfl c1 (fun j hj => by rw [List.getElem?_eq_getElem hj]; exact R1.out j _ (List.getElem?_eq_getElem hj)) _ Tryz.underlying25 rfl Hi1.out ?_)
    | (refine wpList_build2 rfl 46 _ rfl t.swap.cells.toArray [(0, .agg c1.toArray), (1, .agg c0.toArray)] (by simp only [List.map_toArray, List.map_cons, List.map_nil]; rfl) Hb.out ?_)
    | (refine wp_build2 46 _ rfl t.swap.cells.toArray [(0, .agg c1.toArray), (1, .agg c0.toArray)] (by simp only [List.map_toArray, List.map_cons, List.map_nil]; rfl) Hb.out ?_)
    | (refine wp_store_mid 46 (.tmp 4) (.tmp 54) rfl (w.heap.size + 1) 0 t.swap.cells.toArray rfl rfl Hth.out Hi2.out Hone.out ?_)
    | (refine wpList_store_mid rfl 46 (.tmp 4) (.tmp 54) rfl (w.heap.size + 1) 0 t.swap.cells.toArray rfl rfl Hth.out Hi2.out Hone.out ?_))
   refine bodyPost_ret (results_cell1t rfl _ _ (w.heap.size + 1) 46 t.swap.cells.toArray _ rfl Hfill.out Tryz.underlying46 rfl Hi2.out) rfl ?_
   rw [e2.out]
   refine ⟨⟨A6, ⟨c6, ?_⟩, Hfar.out⟩, below_sets (by omega) F1.out.1 _ _⟩
   rw [Hol.out]
   rfl
end Go.Proofs.YtmagppkclnebjaaGreatDoor

set_option linter.unusedSimpArgs false
set_option linter.unusedVariables false
namespace Go.Proofs.YtmagppkclnebjaaGreatDoor
open Go.RowKit
open L

/-- what the callees of LineupSplits do, in the worlds of its walk -/
structure SplC (P : World → Prop) (tc : List Value) (A : Option Addr) (n c : Nat) (p : Int) (l : List Chg) (cc bad : Int) (ts tp : Tms) (ls lp : List Chg) (ms mp : Nat) : Prop where
 h13 : ∀ W, P W → Calls Tryz.prog 13 #[] W fun x w' => x = .returned (.bool true) ∧ Below W.heap.size W w'
 h21 : ∀ W, P W → Calls Tryz.prog 21 #[.agg (tc ++ [Value.slice A n c]).toArray] W fun x w' => x = .returned (.bool true) ∧ Below W.heap.size W w'
 h23 : ∀ W, Calls Tryz.prog 23 #[.agg tc.toArray] W fun x w' => x = .returned (.agg tc.toArray) ∧ Below W.heap.size W w'
 h24 : ∀ W, P W → Calls Tryz.prog 24 #[.slice A n c] W fun x w' => (∃ B d, x = .returned (.slice B n d) ∧ n ≤ d ∧ RdC w' B l) ∧ Below W.heap.size W w'
 h57 : ∀ W B d, RdC W B l → Calls Tryz.prog 57 #[.agg tc.toArray, .slice B n d] W fun x w' => (∃ B0 d0, x = .returned (.tuple #[.agg ts.cells.toArray, .slice B0 ms d0, .int .i64 cc]) ∧ RdC w' B0 ls) ∧ Below W.heap.size W w'
 h58 : ∀ W B d, n ≤ d → RdC W B l → Calls Tryz.prog 58 #[.agg tc.toArray, .slice B n d, .int .i64 p] W fun x w' => (∃ B0 d0, x = .returned (.tuple #[.agg tp.cells.toArray, .slice B0 mp d0, .int .i64 bad]) ∧ RdC w' B0 lp) ∧ Below W.heap.size W w'
 h26 : ∀ W, P W → Calls Tryz.prog 26 #[.agg tc.toArray, .slice A n c] W fun x w' => x = .returned (.int .i64 cc) ∧ Below W.heap.size W w'
 h59 : cc = 0 → ∀ W, P W → Calls Tryz.prog 59 #[.agg tc.toArray, .slice A n c] W fun x w' => (∃ B0 d0, x = .returned (.tuple #[.agg ts.cells.toArray, .slice B0 ms d0]) ∧ RdC w' B0 ls) ∧ Below W.heap.size W w'
 h60 : bad = 0 → ∀ W, P W → Calls Tryz.prog 60 #[.agg tc.toArray, .slice A n c, .int .i64 p] W fun x w' => (∃ B0 d0, x = .returned (.tuple #[.agg tp.cells.toArray, .slice B0 mp d0]) ∧ RdC w' B0 lp) ∧ Below W.heap.size W w'
 hz1 : cc ≠ 0 → ts = Tms.zero ∧ ls = [] ∧ ms = 0
 hz2 : bad ≠ 0 → tp = Tms.zero ∧ lp = [] ∧ mp = 0
 hok : ts.ok ∧ tp.ok
 hl : ls.length = ms ∧ lp.length = mp ∧ ms ≤ 100000 ∧ mp ≤ 100000
 hbad : firstE [cc, withinE p 0 256] = bad

theorem spl_facts (P : World → Prop) (w : World) (t : Tms) (ht : t.ok) (l : List Chg) (A : Option Addr) (n c : Nat) (hn : l.length = n) (p : Int) (hle : n ≤ 8 ∨ (64 < n ∧ n ≤ 66)) (hsz : ∀ s ∈ t.l0.b ++ t.l1.b, s.size ≤ 9223372036854775807) (hszl : ∀ d ∈ l, d.name.size ≤ 9223372036854775807) (hl : RdC w A l)
 (haw : ∀ W, Below w.heap.size w W → Calls Tryz.prog 13 #[] W fun x w' => x = .returned (.bool true) ∧ Below W.heap.size W w') (Gp : GP w t.cells A n c 1 P) (hsh : shortL t l = true) :
 SplC P t.cells A n c p l (checkChanges t l) (firstE [checkChanges t l, withinE p 0 256]) (swapP t l).1 (splitP t l p).1 (swapP t l).2.1 (splitP t l p).2.1 (swapP t l).2.1.length (splitP t l p).2.1.length := by
 have hlW : ∀ W, P W → RdC W A l := fun W h => hl.below (Gp.below _ h)
 have valid : checkChanges t l = 0 → n ≤ 8 := fun h0 => by
  have h64 := (cc_parts h0).2.1
  rw [hn] at h64
  omega
 have s3 : (swapP t l).2.2 = checkChanges t l := by
  unfold swapP
  split
  ·
   rfl
  ·
   rename_i h; simp at h; rw [h]
 have p3 : (splitP t l p).2.2 = firstE [checkChanges t l, withinE p 0 256] := by
  unfold splitP ccIdx
  split
  ·
   rfl
  ·
   rename_i h; simp at h; rw [h]
 have s0 : checkChanges t l = 0 → swapP t l = (t.swap, swapR l, 0) := fun h => by unfold swapP; rw [if_neg (by rw [h]; simp)]
 have s1 : checkChanges t l ≠ 0 → swapP t l = (Tms.zero, [], checkChanges t l) := fun h => by unfold swapP; rw [if_pos h]
 have p0 : firstE [checkChanges t l, withinE p 0 256] = 0 → splitP t l p = (atL t l (p - 1), restR l p, 0) := fun h => by unfold splitP ccIdx; rw [if_neg (by rw [h]; simp)]
 have p1 : firstE [checkChanges t l, withinE p 0 256] ≠ 0 → splitP t l p = (Tms.zero, [], firstE [checkChanges t l, withinE p 0 256]) := fun h => by unfold splitP ccIdx; rw [if_pos h]
 have lsw : (swapP t l).2.1.length ≤ 100000 := by
  by_cases h : checkChanges t l = 0
  ·
   rw [s0 h]
   have := (swapR_perm l).length_eq
   rw [List.length_map] at this
   have := valid h
   show (swapR l).length ≤ 100000
   omega
  ·
   rw [s1 h]; exact Nat.zero_le _
 have lsp : (splitP t l p).2.1.length ≤ 100000 := by
  by_cases h : firstE [checkChanges t l, withinE p 0 256] = 0
  ·
   rw [p0 h]
   have h1 : (restR l p).length ≤ l.length := by unfold restR; rw [List.length_map]; exact List.length_filter_le _ _
   have := valid (firstE2 h).1
   show (restR l p).length ≤ 100000
   omega
  ·
   rw [p1 h]; exact Nat.zero_le _
 refine { h13 := fun W h => haw W (Gp.below _ h), h21 := ?_, h23 := fun W => given_any t ht _ rfl W, h24 := ?_, h57 := ?_, h58 := ?_, h26 := fun W h => refCheck_any t ht _ rfl l A n c hn (by omega) hsz hszl W (hlW W h), h59 := ?_, h60 := ?_, hz1 := ?_, hz2 := ?_, hok := ?_, hl := ⟨rfl, rfl, lsw, lsp⟩, hbad := rfl }
 ·
  intro W h
  have := short_any t ht _ l A n c rfl hn W (hlW W h)
  rw [hsh] at this; exact this
 ·
  intro W h
  exact (listC_any l A n c hn (by omega) W (hlW W h)).mono fun x w' ⟨⟨B, d, e, h1, h2, _⟩, hb⟩ => ⟨⟨B, d, e, h1, h2⟩, hb⟩
 ·
  intro W B d h
  have := swap_any t ht _ rfl l B n d hn W h (fun h0 => by have := valid h0; omega)
  rw [s3] at this; exact this
 ·
  intro W B d hnd h
  have := split_any t ht _ rfl l B n d hn hnd p W h
  rw [p3] at this; exact this
 ·
  intro h0 W h
  rw [s0 h0]
  exact refSwap_any t ht _ rfl l A n c hn (by have := valid h0; omega) (fun d hd => (okS_all h0 d hd).1) W (hlW W h)
 ·
  intro h0 W h
  obtain ⟨hc, hw⟩ := firstE2 h0
  rw [p0 h0, ← atAll_eq l t (p - 1) (plays_sorted (cc_sorted hc))]
  exact refSplit_any t ht _ rfl l A n c hn (by have := valid hc; omega) (okS_all hc) (fun d hd => (checkC_zero ((cc_parts hc).2.2.1 d hd)).2.1) p (withinE_zero hw) W (hlW W h)
 ·
  intro h
  rw [s1 h]; exact ⟨rfl, rfl, rfl⟩
 ·
  intro h
  rw [p1 h]; exact ⟨rfl, rfl, rfl⟩
 ·
  constructor
  ·
   by_cases h : checkChanges t l = 0
   ·
    rw [s0 h]; exact ⟨ht.2, ht.1⟩
   ·
    rw [s1 h]; exact Tms.zero_ok
  ·
   by_cases h : firstE [checkChanges t l, withinE p 0 256] = 0
   ·
    rw [p0 h]; exact atL_ok _ _ _ ht
   ·
    rw [p1 h]; exact Tms.zero_ok
end Go.Proofs.YtmagppkclnebjaaGreatDoor

set_option linter.unusedSimpArgs false
set_option linter.unusedVariables false
namespace Go.Proofs.YtmagppkclnebjaaGreatDoor
open Go.RowKit
open L

def kindV : Option Value → Nat
 | some (.int _ _) => 1
 | some (.string _) => 2
 | _ => 0
theorem zero_ne {X : World} {g b off : Nat} {ty : TypeId} {d : Chg} (h : Bk X g ty #[.string { data := #[] }, .string { data := #[] }, .string { data := #[] }, .string { data := #[] }, .string { data := #[] }, .string { data := #[] }, .string { data := #[] }, .string { data := #[] }, .string { data := #[] }, .int .i64 0, .int .i64 0, .int .i64 0, .int .i64 0, .int .i64 0, .int .i64 0, .int .i64 0, .int .i64 0, .int .i64 0, .string { data := #[] }, .string { data := #[] }, .string { data := #[] }, .string { data := #[] }, .string { data := #[] }, .string { data := #[] }, .string { data := #[] }, .string { data := #[] }, .string { data := #[] }, .int .i64 0, .int .i64 0, .int .i64 0, .int .i64 0, .int .i64 0, .int .i64 0, .int .i64 0, .int .i64 0, .int .i64 0]) (hc : ∀ j, j < 5 → X.cell? ⟨b, off + j, none⟩ = d.val[j]?) : b ≠ g := by
 rintro rfl
 have k0 := congrArg kindV (hc 0 (by omega)); have k1 := congrArg kindV (hc 1 (by omega)); have k2 := congrArg kindV (hc 2 (by omega)); have k3 := congrArg kindV (hc 3 (by omega)); have k4 := congrArg kindV (hc 4 (by omega))
 rw [h.cell] at k0 k1 k2 k3 k4
 by_cases ho : off < 36
 ·
  have key : ∀ o : Nat, o < 36 → ¬ (kindV (#[.string { data := #[] }, .string { data := #[] }, .string { data := #[] }, .string { data := #[] }, .string { data := #[] }, .string { data := #[] }, .string { data := #[] }, .string { data := #[] }, .string { data := #[] }, .int .i64 0, .int .i64 0, .int .i64 0, .int .i64 0, .int .i64 0, .int .i64 0, .int .i64 0, .int .i64 0, .int .i64 0, .string { data := #[] }, .string { data := #[] }, .string { data := #[] }, .string { data := #[] }, .string { data := #[] }, .string { data := #[] }, .string { data := #[] }, .string { data := #[] }, .string { data := #[] }, .int .i64 0, .int .i64 0, .int .i64 0, .int .i64 0, .int .i64 0, .int .i64 0, .int .i64 0, .int .i64 0, .int .i64 0][o]? : Option Value) = 1 ∧ kindV (#[.string { data := #[] }, .string { data := #[] }, .string { data := #[] }, .string { data := #[] }, .string { data := #[] }, .string { data := #[] }, .string { data := #[] }, .string { data := #[] }, .string { data := #[] }, .int .i64 0, .int .i64 0, .int .i64 0, .int .i64 0, .int .i64 0, .int .i64 0, .int .i64 0, .int .i64 0, .int .i64 0, .string { data := #[] }, .string { data := #[] }, .string { data := #[] }, .string { data := #[] }, .string { data := #[] }, .string { data := #[] }, .string { data := #[] }, .string { data := #[] }, .string { data := #[] }, .int .i64 0, .int .i64 0, .int .i64 0, .int .i64 0, .int .i64 0, .int .i64 0, .int .i64 0, .int .i64 0, .int .i64 0][o + 1]? : Option Value) = 1 ∧ kindV (#[.string { data := #[] }, .string { data := #[] }, .string { data := #[] }, .string { data := #[] }, .string { data := #[] }, .string { data := #[] }, .string { data := #[] }, .string { data := #[] }, .string { data := #[] }, .int .i64 0, .int .i64 0, .int .i64 0, .int .i64 0, .int .i64 0, .int .i64 0, .int .i64 0, .int .i64 0, .int .i64 0, .string { data := #[] }, .string { data := #[] }, .string { data := #[] }, .string { data := #[] }, .string { data := #[] }, .string { data := #[] }, .string { data := #[] }, .string { data := #[] }, .string { data := #[] }, .int .i64 0, .int .i64 0, .int .i64 0, .int .i64 0, .int .i64 0, .int .i64 0, .int .i64 0, .int .i64 0, .int .i64 0][o + 2]? : Option Value) = 1 ∧ kindV (#[.string { data := #[] }, .string { data := #[] }, .string { data := #[] }, .string { data := #[] }, .string { data := #[] }, .string { data := #[] }, .string { data := #[] }, .string { data := #[] }, .string { data := #[] }, .int .i64 0, .int .i64 0, .int .i64 0, .int .i64 0, .int .i64 0, .int .i64 0, .int .i64 0, .int .i64 0, .int .i64 0, .string { data := #[] }, .string { data := #[] }, .string { data := #[] }, .string { data := #[] }, .string { data := #[] }, .string { data := #[] }, .string { data := #[] }, .string { data := #[] }, .string { data := #[] }, .int .i64 0, .int .i64 0, .int .i64 0, .int .i64 0, .int .i64 0, .int .i64 0, .int .i64 0, .int .i64 0, .int .i64 0][o + 3]? : Option Value) = 2 ∧ kindV (#[.string { data := #[] }, .string { data := #[] }, .string { data := #[] }, .string { data := #[] }, .string { data := #[] }, .string { data := #[] }, .string { data := #[] }, .string { data := #[] }, .string { data := #[] }, .int .i64 0, .int .i64 0, .int .i64 0, .int .i64 0, .int .i64 0, .int .i64 0, .int .i64 0, .int .i64 0, .int .i64 0, .string { data := #[] }, .string { data := #[] }, .string { data := #[] }, .string { data := #[] }, .string { data := #[] }, .string { data := #[] }, .string { data := #[] }, .string { data := #[] }, .string { data := #[] }, .int .i64 0, .int .i64 0, .int .i64 0, .int .i64 0, .int .i64 0, .int .i64 0, .int .i64 0, .int .i64 0, .int .i64 0][o + 4]? : Option Value) = 1) := by decide
  exact key off ho ⟨k0, k1, k2, k3, k4⟩
 ·
  rw [Array.getElem?_eq_none (by show 36 ≤ off + 0; omega)] at k0
  exact absurd k0 (by show ¬ 0 = 1; decide)
theorem rdc_z {X : World} {g : Nat} {ty : TypeId} {B : Option Addr} {l : List Chg} (h : RdC X B l) (hb : Bk X g ty #[.string { data := #[] }, .string { data := #[] }, .string { data := #[] }, .string { data := #[] }, .string { data := #[] }, .string { data := #[] }, .string { data := #[] }, .string { data := #[] }, .string { data := #[] }, .int .i64 0, .int .i64 0, .int .i64 0, .int .i64 0, .int .i64 0, .int .i64 0, .int .i64 0, .int .i64 0, .int .i64 0, .string { data := #[] }, .string { data := #[] }, .string { data := #[] }, .string { data := #[] }, .string { data := #[] }, .string { data := #[] }, .string { data := #[] }, .string { data := #[] }, .string { data := #[] }, .int .i64 0, .int .i64 0, .int .i64 0, .int .i64 0, .int .i64 0, .int .i64 0, .int .i64 0, .int .i64 0, .int .i64 0]) (vs : List Value) : RdC (X.setCells g 0 vs) B l := fun k hk => by
 obtain ⟨b, off, rfl, hc⟩ := h k hk
 have hne : b ≠ g := zero_ne (d := l.getD k noChg) hb hc
 exact ⟨b, off, rfl, fun j hj => (cell_far (p := ⟨b, off + k * 5 + j, none⟩) hne vs 0 X).trans (hc j hj)⟩

set_option maxHeartbeats 20000000 in
set_option maxRecDepth 100000 in
theorem spl_main (P : World → Prop) (w : World) (tc : List Value) (A : Option Addr) (n c : Nat) (p : Int) (l : List Chg) (cc bad : Int) (ts tp : Tms) (ls lp : List Chg) (ms mp : Nat)
 (Gp : GP w tc A n c 1 P) (Gt : TC tc) (C : SplC P tc A n c p l cc bad ts tp ls lp ms mp) (G : Array Value) (hP : P (w.alloc (.cells G 49))) :
 Calls Tryz.prog 11 #[.agg G, .int .i64 p] w fun x w' => x = .returned (.bool true) ∧ Below w.heap.size w w' := by
 go_enter Tryz.func11, Tryz.ntmps11
 go_upto_region 1 with fail
 generalize (w.alloc (.cells G 49)) = W0 at hP ⊢
 go_cut [23] from 17 (fun s23 wr => s23 = .bool false ∧ P wr)
 case first =>
  have hgr := Gp.rg
  have hi49 := Gp.i49
  have h21 := C.h21
  generalize (tc ++ [Value.slice A n c]) = gc at hgr hi49 h21
  go_wp2_with (first
   | (go_at_call 13; refine (C.h13 _ hP).mono ?_; rintro e w1 ⟨rfl, hb1⟩; have hP1 := Gp.kp _ _ hP hb1)
   | (refine wpList_load_cells_g 49 _ rfl w.heap.size 0 rfl gc (fun j hj => by rw [List.getElem?_eq_getElem hj]; exact hgr _ hP1 j _ (List.getElem?_eq_getElem hj)) _ Tryz.underlying49 rfl hi49 rfl ?_)
   | (go_at_call 21; refine (h21 _ hP1).mono ?_; rintro e w2 ⟨rfl, hb2⟩; have hP2 := Gp.kp _ _ hP1 hb2))
  go_meet
  exact ⟨by first | rfl | simp, hP2⟩
 case rest =>
  obtain ⟨rfl, hPc⟩ := hcut
  clear hP
  revert hPc
  generalize wc = W0
  intro hP
  go_upto_region 3 with fail
  go_cut [5, 6, 7] from 17 (fun s5 s6 s7 wr => P wr ∧ ∃ g B d, s5 = .pointer (some ⟨g, 0, none⟩) ∧ s6 = .slice B ms d ∧ s7 = .int .i64 cc ∧ Bk wr g 54 ts.cells.toArray ∧ RdC wr B ls)
  case first =>
   as_aux_lemma =>
    have kQ := Gp.kp
    have hQin := hP
    have HS : Hid (∀ X, P X → X.cell? ⟨w.heap.size, 36, none⟩ = some (.slice A n c) ∧ P X) := fun X h => ⟨Gp.c36 _ h, h⟩
    have HG : Hid (∀ X, P X → X.rangeAt w.heap.size 0 tc) := fun X h => Gp.r _ h
    have HQ : Hid (∀ X, P X → P X) := fun X h => h
    have HQs : Hid (∀ X g cs, P X → w.heap.size + 1 ≤ g → P (X.setCells g 0 cs)) := Gp.sets
    have Qlo : Hid (∀ X, P X → w.heap.size + 1 ≤ X.heap.size) := Gp.lo
    have Gs := tc_of ts C.hok.1
    have Hf := C.h57
    generalize hrc : ts.cells = rc at Gs Hf
    have Hrc := Lib.hid hrc
    clear hrc
    have hQ0 := hQin
    have hQd := kQ _ _ hQ0 (bt_drew (Below.refl _ W0))
    have hS0 := HS.out _ hQd
    refine wp_region_held_drew (S := (fun X => X.cell? ⟨w.heap.size, 36, none⟩ = some (.slice A n c) ∧ P X)) (by kernel_rfl) (hS0) (fun hHeld => ?_)
    refine tkE (i := 0) rfl ?_
    refine ldE (i := 1) rfl rfl rfl (tc) (fun W h => HG.out W h.2) Tryz.underlying46 rfl (Gt.l46) ?_
    refine tkE (i := 3) rfl ?_
    refine tkE (i := 4) rfl ?_
    refine rdE2 (i := 2) (j := 11) rfl rfl (fun K hK => ?_) (fun K hK => ?_)
    ·
     go_simp
     go_at_call 23
     refine (C.h23 _).mono ?_
     rintro e w2 ⟨rfl, hbw⟩
     go_wp2_with fail
     have hQx := kQ _ _ hQd hbw
     refine hK.out _ _ (HS.out _ hQx) (fun hHeld => ?_)
     clear hK K hbw hQd
     have hQ := hQx
     clear hQx
     try simp only [Act.put, s1D, s2D, s3D]
     refine rdE2 (i := 5) (j := 11) rfl rfl (fun K hK => ?_) (fun K hK => ?_)
     ·
      go_simp
      go_at_call 24
      refine (C.h24 _ (HQ.out _ hQ)).mono ?_
      rintro e w3 ⟨⟨B, d, rfl, hcap, hr'⟩, hbw⟩
      go_wp2_with fail
      have hQx := kQ _ _ hQ hbw
      have hr := hr'
      clear hr'
      refine hK.out _ _ (HS.out _ hQx) (fun hHeld => ?_)
      clear hK K hbw hQ
      have hQ := hQx
      clear hQx
      try simp only [Act.put, s1D, s2D, s3D]
      refine rdE2 (i := 6) (j := 11) rfl rfl (fun K hK => ?_) (fun K hK => ?_)
      ·
       go_simp
       go_at_call 57
       refine (Hf _ _ _ hr).mono ?_
       rintro e w4 ⟨⟨B1, d1, rfl, hr'⟩, hbw⟩
       go_wp2_with fail
       have hQx := kQ _ _ hQ hbw
       clear hr
       have hr := hr'
       clear hr'
       refine hK.out _ _ (HS.out _ hQx) (fun hHeld => ?_)
       clear hK K hbw hQ
       have hQ := hQx
       clear hQx
       try simp only [Act.put, s1D, s2D, s3D]
       refine tkE (i := 7) rfl ?_
       refine tkE (i := 8) rfl ?_
       refine tkE (i := 9) rfl ?_
       refine tkE (i := 10) rfl ?_
       have hQn := kQ _ _ hQ (bt_new w4 (.cells #[.string { data := #[] }, .string { data := #[] }, .string { data := #[] }, .string { data := #[] }, .string { data := #[] }, .string { data := #[] }, .string { data := #[] }, .string { data := #[] }, .string { data := #[] }, .int .i64 0, .int .i64 0, .int .i64 0, .int .i64 0, .int .i64 0, .int .i64 0, .int .i64 0, .int .i64 0, .int .i64 0, .string { data := #[] }, .string { data := #[] }, .string { data := #[] }, .string { data := #[] }, .string { data := #[] }, .string { data := #[] }, .string { data := #[] }, .string { data := #[] }, .string { data := #[] }, .int .i64 0, .int .i64 0, .int .i64 0, .int .i64 0, .int .i64 0, .int .i64 0, .int .i64 0, .int .i64 0, .int .i64 0] 54))
       refine rdE (i := 11) rfl (fun K hK => ?_)
       go_simp
       refine onE hK (HS.out _ hQn) (fun hHeld => ?_)
       clear hK K
       have hb := Bk.new w4 54 #[.string { data := #[] }, .string { data := #[] }, .string { data := #[] }, .string { data := #[] }, .string { data := #[] }, .string { data := #[] }, .string { data := #[] }, .string { data := #[] }, .string { data := #[] }, .int .i64 0, .int .i64 0, .int .i64 0, .int .i64 0, .int .i64 0, .int .i64 0, .int .i64 0, .int .i64 0, .int .i64 0, .string { data := #[] }, .string { data := #[] }, .string { data := #[] }, .string { data := #[] }, .string { data := #[] }, .string { data := #[] }, .string { data := #[] }, .string { data := #[] }, .string { data := #[] }, .int .i64 0, .int .i64 0, .int .i64 0, .int .i64 0, .int .i64 0, .int .i64 0, .int .i64 0, .int .i64 0, .int .i64 0]
       have hlo := Qlo.out _ hQ
       have hr2 := hr.below (bt_new w4 (.cells #[.string { data := #[] }, .string { data := #[] }, .string { data := #[] }, .string { data := #[] }, .string { data := #[] }, .string { data := #[] }, .string { data := #[] }, .string { data := #[] }, .string { data := #[] }, .int .i64 0, .int .i64 0, .int .i64 0, .int .i64 0, .int .i64 0, .int .i64 0, .int .i64 0, .int .i64 0, .int .i64 0, .string { data := #[] }, .string { data := #[] }, .string { data := #[] }, .string { data := #[] }, .string { data := #[] }, .string { data := #[] }, .string { data := #[] }, .string { data := #[] }, .string { data := #[] }, .int .i64 0, .int .i64 0, .int .i64 0, .int .i64 0, .int .i64 0, .int .i64 0, .int .i64 0, .int .i64 0, .int .i64 0] 54))
       clear hr hHeld
       have hr := hr2
       clear hr2
       generalize (w4.alloc (.cells #[.string { data := #[] }, .string { data := #[] }, .string { data := #[] }, .string { data := #[] }, .string { data := #[] }, .string { data := #[] }, .string { data := #[] }, .string { data := #[] }, .string { data := #[] }, .int .i64 0, .int .i64 0, .int .i64 0, .int .i64 0, .int .i64 0, .int .i64 0, .int .i64 0, .int .i64 0, .int .i64 0, .string { data := #[] }, .string { data := #[] }, .string { data := #[] }, .string { data := #[] }, .string { data := #[] }, .string { data := #[] }, .string { data := #[] }, .string { data := #[] }, .string { data := #[] }, .int .i64 0, .int .i64 0, .int .i64 0, .int .i64 0, .int .i64 0, .int .i64 0, .int .i64 0, .int .i64 0, .int .i64 0] 54)) = Wn at hQn hb hr ⊢
       generalize w4.heap.size = g at hb hlo ⊢
       clear hQ
       have hQ := hQn
       clear hQn
       refine rdE (i := 12) rfl (fun K hK => ?_)
       refine step_store rfl 54 _ _ rfl g 0 rc.toArray rfl rfl (hb.there _ (by rw [Gs.s36]; decide)) Gs.i54 Gs.one ?_
       have hPS := HQs.out _ g rc hQ hlo
       refine onE hK (HS.out _ hPS) (fun hHeld => ?_)
       clear hK K hHeld
       have hHeld := HS.out _ hPS
       refine tkE (i := 13) rfl ?_
       refine tkE (i := 14) rfl ?_
       refine wpAnyH_done (by kernel_rfl) ?_ _
       go_wp2_with fail
       go_meet
       exact ⟨hPS, g, B1, d1, rfl, rfl, rfl, by rw [Hrc.out]; simpa using hb.fill rc.toArray (by rw [Gs.s36]; rfl), rdc_z hr hb rc⟩
      ·
       go_simp
       have hQn : P (w3.alloc (.cells #[.string { data := #[] }, .string { data := #[] }, .string { data := #[] }, .string { data := #[] }, .string { data := #[] }, .string { data := #[] }, .string { data := #[] }, .string { data := #[] }, .string { data := #[] }, .int .i64 0, .int .i64 0, .int .i64 0, .int .i64 0, .int .i64 0, .int .i64 0, .int .i64 0, .int .i64 0, .int .i64 0, .string { data := #[] }, .string { data := #[] }, .string { data := #[] }, .string { data := #[] }, .string { data := #[] }, .string { data := #[] }, .string { data := #[] }, .string { data := #[] }, .string { data := #[] }, .int .i64 0, .int .i64 0, .int .i64 0, .int .i64 0, .int .i64 0, .int .i64 0, .int .i64 0, .int .i64 0, .int .i64 0] 54)) := kQ _ _ hQ (bt_new w3 _)
       refine onE hK (HS.out _ hQn) (fun hHeld => ?_)
       clear hK K
       have hb := Bk.new w3 54 #[.string { data := #[] }, .string { data := #[] }, .string { data := #[] }, .string { data := #[] }, .string { data := #[] }, .string { data := #[] }, .string { data := #[] }, .string { data := #[] }, .string { data := #[] }, .int .i64 0, .int .i64 0, .int .i64 0, .int .i64 0, .int .i64 0, .int .i64 0, .int .i64 0, .int .i64 0, .int .i64 0, .string { data := #[] }, .string { data := #[] }, .string { data := #[] }, .string { data := #[] }, .string { data := #[] }, .string { data := #[] }, .string { data := #[] }, .string { data := #[] }, .string { data := #[] }, .int .i64 0, .int .i64 0, .int .i64 0, .int .i64 0, .int .i64 0, .int .i64 0, .int .i64 0, .int .i64 0, .int .i64 0]
       have hlo := Qlo.out _ hQ
       have hr2 := hr.below (bt_new w3 (.cells #[.string { data := #[] }, .string { data := #[] }, .string { data := #[] }, .string { data := #[] }, .string { data := #[] }, .string { data := #[] }, .string { data := #[] }, .string { data := #[] }, .string { data := #[] }, .int .i64 0, .int .i64 0, .int .i64 0, .int .i64 0, .int .i64 0, .int .i64 0, .int .i64 0, .int .i64 0, .int .i64 0, .string { data := #[] }, .string { data := #[] }, .string { data := #[] }, .string { data := #[] }, .string { data := #[] }, .string { data := #[] }, .string { data := #[] }, .string { data := #[] }, .string { data := #[] }, .int .i64 0, .int .i64 0, .int .i64 0, .int .i64 0, .int .i64 0, .int .i64 0, .int .i64 0, .int .i64 0, .int .i64 0] 54))
       clear hr
       have hr := hr2
       clear hr2
       clear hHeld
       generalize (w3.alloc (.cells #[.string { data := #[] }, .string { data := #[] }, .string { data := #[] }, .string { data := #[] }, .string { data := #[] }, .string { data := #[] }, .string { data := #[] }, .string { data := #[] }, .string { data := #[] }, .int .i64 0, .int .i64 0, .int .i64 0, .int .i64 0, .int .i64 0, .int .i64 0, .int .i64 0, .int .i64 0, .int .i64 0, .string { data := #[] }, .string { data := #[] }, .string { data := #[] }, .string { data := #[] }, .string { data := #[] }, .string { data := #[] }, .string { data := #[] }, .string { data := #[] }, .string { data := #[] }, .int .i64 0, .int .i64 0, .int .i64 0, .int .i64 0, .int .i64 0, .int .i64 0, .int .i64 0, .int .i64 0, .int .i64 0] 54)) = Wn at hQn hb hr ⊢
       generalize w3.heap.size = g at hb hlo ⊢
       have hQ := hQn
       clear hQn
       refine rdE (i := 6) rfl (fun K hK => ?_)
       go_simp
       go_at_call 57
       refine (Hf _ _ _ hr).mono ?_
       rintro e w4 ⟨⟨B1, d1, rfl, hr'⟩, hbw⟩
       go_wp2_with fail
       have hQx := kQ _ _ hQ hbw
       have hb2 := hb.below hbw hb.lt
       clear hb
       have hb := hb2
       clear hb2
       clear hr
       have hr := hr'
       clear hr'
       refine hK.out _ _ (HS.out _ hQx) (fun hHeld => ?_)
       clear hK K hbw hQ
       have hQ := hQx
       clear hQx
       try simp only [Act.put, s1D, s2D, s3D]
       refine tkE (i := 7) rfl ?_
       refine tkE (i := 8) rfl ?_
       refine tkE (i := 9) rfl ?_
       refine tkE (i := 10) rfl ?_
       refine rdE (i := 12) rfl (fun K hK => ?_)
       refine step_store rfl 54 _ _ rfl g 0 rc.toArray rfl rfl (hb.there _ (by rw [Gs.s36]; decide)) Gs.i54 Gs.one ?_
       have hPS := HQs.out _ g rc hQ hlo
       refine onE hK (HS.out _ hPS) (fun hHeld => ?_)
       clear hK K hHeld
       have hHeld := HS.out _ hPS
       refine tkE (i := 13) rfl ?_
       refine tkE (i := 14) rfl ?_
       refine wpAnyH_done (by kernel_rfl) ?_ _
       go_wp2_with fail
       go_meet
       exact ⟨hPS, g, B1, d1, rfl, rfl, rfl, by rw [Hrc.out]; simpa using hb.fill rc.toArray (by rw [Gs.s36]; rfl), rdc_z hr hb rc⟩
     ·
      go_simp
      have hQn : P (w2.alloc (.cells #[.string { data := #[] }, .string { data := #[] }, .string { data := #[] }, .string { data := #[] }, .string { data := #[] }, .string { data := #[] }, .string { data := #[] }, .string { data := #[] }, .string { data := #[] }, .int .i64 0, .int .i64 0, .int .i64 0, .int .i64 0, .int .i64 0, .int .i64 0, .int .i64 0, .int .i64 0, .int .i64 0, .string { data := #[] }, .string { data := #[] }, .string { data := #[] }, .string { data := #[] }, .string { data := #[] }, .string { data := #[] }, .string { data := #[] }, .string { data := #[] }, .string { data := #[] }, .int .i64 0, .int .i64 0, .int .i64 0, .int .i64 0, .int .i64 0, .int .i64 0, .int .i64 0, .int .i64 0, .int .i64 0] 54)) := kQ _ _ hQ (bt_new w2 _)
      refine onE hK (HS.out _ hQn) (fun hHeld => ?_)
      clear hK K
      have hb := Bk.new w2 54 #[.string { data := #[] }, .string { data := #[] }, .string { data := #[] }, .string { data := #[] }, .string { data := #[] }, .string { data := #[] }, .string { data := #[] }, .string { data := #[] }, .string { data := #[] }, .int .i64 0, .int .i64 0, .int .i64 0, .int .i64 0, .int .i64 0, .int .i64 0, .int .i64 0, .int .i64 0, .int .i64 0, .string { data := #[] }, .string { data := #[] }, .string { data := #[] }, .string { data := #[] }, .string { data := #[] }, .string { data := #[] }, .string { data := #[] }, .string { data := #[] }, .string { data := #[] }, .int .i64 0, .int .i64 0, .int .i64 0, .int .i64 0, .int .i64 0, .int .i64 0, .int .i64 0, .int .i64 0, .int .i64 0]
      have hlo := Qlo.out _ hQ
      clear hHeld
      generalize (w2.alloc (.cells #[.string { data := #[] }, .string { data := #[] }, .string { data := #[] }, .string { data := #[] }, .string { data := #[] }, .string { data := #[] }, .string { data := #[] }, .string { data := #[] }, .string { data := #[] }, .int .i64 0, .int .i64 0, .int .i64 0, .int .i64 0, .int .i64 0, .int .i64 0, .int .i64 0, .int .i64 0, .int .i64 0, .string { data := #[] }, .string { data := #[] }, .string { data := #[] }, .string { data := #[] }, .string { data := #[] }, .string { data := #[] }, .string { data := #[] }, .string { data := #[] }, .string { data := #[] }, .int .i64 0, .int .i64 0, .int .i64 0, .int .i64 0, .int .i64 0, .int .i64 0, .int .i64 0, .int .i64 0, .int .i64 0] 54)) = Wn at hQn hb  ⊢
      generalize w2.heap.size = g at hb hlo ⊢
      have hQ := hQn
      clear hQn
      refine rdE (i := 5) rfl (fun K hK => ?_)
      go_simp
      go_at_call 24
      refine (C.h24 _ (HQ.out _ hQ)).mono ?_
      rintro e w3 ⟨⟨B, d, rfl, hcap, hr'⟩, hbw⟩
      go_wp2_with fail
      have hQx := kQ _ _ hQ hbw
      have hb2 := hb.below hbw hb.lt
      clear hb
      have hb := hb2
      clear hb2
      have hr := hr'
      clear hr'
      refine hK.out _ _ (HS.out _ hQx) (fun hHeld => ?_)
      clear hK K hbw hQ
      have hQ := hQx
      clear hQx
      try simp only [Act.put, s1D, s2D, s3D]
      refine rdE (i := 6) rfl (fun K hK => ?_)
      go_simp
      go_at_call 57
      refine (Hf _ _ _ hr).mono ?_
      rintro e w4 ⟨⟨B1, d1, rfl, hr'⟩, hbw⟩
      go_wp2_with fail
      have hQx := kQ _ _ hQ hbw
      have hb2 := hb.below hbw hb.lt
      clear hb
      have hb := hb2
      clear hb2
      clear hr
      have hr := hr'
      clear hr'
      refine hK.out _ _ (HS.out _ hQx) (fun hHeld => ?_)
      clear hK K hbw hQ
      have hQ := hQx
      clear hQx
      try simp only [Act.put, s1D, s2D, s3D]
      refine tkE (i := 7) rfl ?_
      refine tkE (i := 8) rfl ?_
      refine tkE (i := 9) rfl ?_
      refine tkE (i := 10) rfl ?_
      refine rdE (i := 12) rfl (fun K hK => ?_)
      refine step_store rfl 54 _ _ rfl g 0 rc.toArray rfl rfl (hb.there _ (by rw [Gs.s36]; decide)) Gs.i54 Gs.one ?_
      have hPS := HQs.out _ g rc hQ hlo
      refine onE hK (HS.out _ hPS) (fun hHeld => ?_)
      clear hK K hHeld
      have hHeld := HS.out _ hPS
      refine tkE (i := 13) rfl ?_
      refine tkE (i := 14) rfl ?_
      refine wpAnyH_done (by kernel_rfl) ?_ _
      go_wp2_with fail
      go_meet
      exact ⟨hPS, g, B1, d1, rfl, rfl, rfl, by rw [Hrc.out]; simpa using hb.fill rc.toArray (by rw [Gs.s36]; rfl), rdc_z hr hb rc⟩
    ·
     go_simp
     have hQn : P (W0.alloc (.cells #[.string { data := #[] }, .string { data := #[] }, .string { data := #[] }, .string { data := #[] }, .string { data := #[] }, .string { data := #[] }, .string { data := #[] }, .string { data := #[] }, .string { data := #[] }, .int .i64 0, .int .i64 0, .int .i64 0, .int .i64 0, .int .i64 0, .int .i64 0, .int .i64 0, .int .i64 0, .int .i64 0, .string { data := #[] }, .string { data := #[] }, .string { data := #[] }, .string { data := #[] }, .string { data := #[] }, .string { data := #[] }, .string { data := #[] }, .string { data := #[] }, .string { data := #[] }, .int .i64 0, .int .i64 0, .int .i64 0, .int .i64 0, .int .i64 0, .int .i64 0, .int .i64 0, .int .i64 0, .int .i64 0] 54)).drew := kQ _ _ hQ0 (bt_drew (bt_new W0 _))
     refine onE hK (HS.out _ hQn) (fun hHeld => ?_)
     clear hK K
     have hb := (Bk.new W0 54 #[.string { data := #[] }, .string { data := #[] }, .string { data := #[] }, .string { data := #[] }, .string { data := #[] }, .string { data := #[] }, .string { data := #[] }, .string { data := #[] }, .string { data := #[] }, .int .i64 0, .int .i64 0, .int .i64 0, .int .i64 0, .int .i64 0, .int .i64 0, .int .i64 0, .int .i64 0, .int .i64 0, .string { data := #[] }, .string { data := #[] }, .string { data := #[] }, .string { data := #[] }, .string { data := #[] }, .string { data := #[] }, .string { data := #[] }, .string { data := #[] }, .string { data := #[] }, .int .i64 0, .int .i64 0, .int .i64 0, .int .i64 0, .int .i64 0, .int .i64 0, .int .i64 0, .int .i64 0, .int .i64 0]).drew
     have hlo := Qlo.out _ hQ0
     clear hHeld
     generalize (W0.alloc (.cells #[.string { data := #[] }, .string { data := #[] }, .string { data := #[] }, .string { data := #[] }, .string { data := #[] }, .string { data := #[] }, .string { data := #[] }, .string { data := #[] }, .string { data := #[] }, .int .i64 0, .int .i64 0, .int .i64 0, .int .i64 0, .int .i64 0, .int .i64 0, .int .i64 0, .int .i64 0, .int .i64 0, .string { data := #[] }, .string { data := #[] }, .string { data := #[] }, .string { data := #[] }, .string { data := #[] }, .string { data := #[] }, .string { data := #[] }, .string { data := #[] }, .string { data := #[] }, .int .i64 0, .int .i64 0, .int .i64 0, .int .i64 0, .int .i64 0, .int .i64 0, .int .i64 0, .int .i64 0, .int .i64 0] 54)).drew = Wn at hQn hb  ⊢
     generalize W0.heap.size = g at hb hlo ⊢
     have hQ := hQn
     clear hQn
     refine rdE (i := 2) rfl (fun K hK => ?_)
     go_simp
     go_at_call 23
     refine (C.h23 _).mono ?_
     rintro e w2 ⟨rfl, hbw⟩
     go_wp2_with fail
     have hQx := kQ _ _ hQ hbw
     have hb2 := hb.below hbw hb.lt
     clear hb
     have hb := hb2
     clear hb2
     refine hK.out _ _ (HS.out _ hQx) (fun hHeld => ?_)
     clear hK K hbw hQ
     have hQ := hQx
     clear hQx
     try simp only [Act.put, s1D, s2D, s3D]
     refine rdE (i := 5) rfl (fun K hK => ?_)
     go_simp
     go_at_call 24
     refine (C.h24 _ (HQ.out _ hQ)).mono ?_
     rintro e w3 ⟨⟨B, d, rfl, hcap, hr'⟩, hbw⟩
     go_wp2_with fail
     have hQx := kQ _ _ hQ hbw
     have hb2 := hb.below hbw hb.lt
     clear hb
     have hb := hb2
     clear hb2
     have hr := hr'
     clear hr'
     refine hK.out _ _ (HS.out _ hQx) (fun hHeld => ?_)
     clear hK K hbw hQ
     have hQ := hQx
     clear hQx
     try simp only [Act.put, s1D, s2D, s3D]
     refine rdE (i := 6) rfl (fun K hK => ?_)
     go_simp
     go_at_call 57
     refine (Hf _ _ _ hr).mono ?_
     rintro e w4 ⟨⟨B1, d1, rfl, hr'⟩, hbw⟩
     go_wp2_with fail
     have hQx := kQ _ _ hQ hbw
     have hb2 := hb.below hbw hb.lt
     clear hb
     have hb := hb2
     clear hb2
     clear hr
     have hr := hr'
     clear hr'
     refine hK.out _ _ (HS.out _ hQx) (fun hHeld => ?_)
     clear hK K hbw hQ
     have hQ := hQx
     clear hQx
     try simp only [Act.put, s1D, s2D, s3D]
     refine tkE (i := 7) rfl ?_
     refine tkE (i := 8) rfl ?_
     refine tkE (i := 9) rfl ?_
     refine tkE (i := 10) rfl ?_
     refine rdE (i := 12) rfl (fun K hK => ?_)
     refine step_store rfl 54 _ _ rfl g 0 rc.toArray rfl rfl (hb.there _ (by rw [Gs.s36]; decide)) Gs.i54 Gs.one ?_
     have hPS := HQs.out _ g rc hQ hlo
     refine onE hK (HS.out _ hPS) (fun hHeld => ?_)
     clear hK K hHeld
     have hHeld := HS.out _ hPS
     refine tkE (i := 13) rfl ?_
     refine tkE (i := 14) rfl ?_
     refine wpAnyH_done (by kernel_rfl) ?_ _
     go_wp2_with fail
     go_meet
     exact ⟨hPS, g, B1, d1, rfl, rfl, rfl, by rw [Hrc.out]; simpa using hb.fill rc.toArray (by rw [Gs.s36]; rfl), rdc_z hr hb rc⟩
  case rest =>
   obtain ⟨hPc, g5, B0, d0, rfl, rfl, rfl, hb5, hr5⟩ := hcut
   clear hP
   generalize wc = W1 at hPc hb5 hr5 ⊢
   obtain ⟨P1, kP1, hP1, oP1⟩ : ∃ P1 : World → Prop, Keep P1 ∧ P1 W1 ∧ Hid ((∀ X, P1 X → P X ∧ Bk X g5 54 ts.cells.toArray ∧ RdC X B0 ls ∧ W1.heap.size ≤ X.heap.size) ∧ (∀ X g cs, P1 X → W1.heap.size ≤ g → P1 (X.setCells g 0 cs))) :=
    ⟨fun X => P X ∧ Below W1.heap.size W1 X, keep_and Gp.kp (keep_below W1), ⟨hPc, Below.refl _ _⟩, fun X h => ⟨h.1, hb5.below h.2 hb5.lt, hr5.below h.2, h.2.size⟩, fun X g cs h hg => ⟨Gp.sets X g cs h.1 (Nat.le_trans (Gp.lo _ hPc) hg), below_sets hg h.2 _ _⟩⟩
   clear hPc hb5 hr5
   go_upto_region 4 with fail
   go_cut [8, 9, 10] from 17 (fun s5 s6 s7 wr => P1 wr ∧ ∃ g B d, s5 = .pointer (some ⟨g, 0, none⟩) ∧ s6 = .slice B mp d ∧ s7 = .int .i64 bad ∧ Bk wr g 54 tp.cells.toArray ∧ RdC wr B lp)
   case first =>
    as_aux_lemma =>
     have kQ := kP1
     have hQin := hP1
     have HS : Hid (∀ X, P1 X → X.cell? ⟨w.heap.size, 36, none⟩ = some (.slice A n c) ∧ P1 X) := fun X h => ⟨Gp.c36 _ (oP1.out.1 _ h).1, h⟩
     have HG : Hid (∀ X, P1 X → X.rangeAt w.heap.size 0 tc) := fun X h => Gp.r _ (oP1.out.1 _ h).1
     have HQ : Hid (∀ X, P1 X → P X) := fun X h => (oP1.out.1 _ h).1
     obtain ⟨lim, HQs, Qlo⟩ : ∃ lim, Hid (∀ X g cs, P1 X → lim ≤ g → P1 (X.setCells g 0 cs)) ∧ Hid (∀ X, P1 X → lim ≤ X.heap.size) := ⟨W1.heap.size, oP1.out.2, fun X h => (oP1.out.1 _ h).2.2.2⟩
     have Gs := tc_of tp C.hok.2
     have Hf := C.h58
     generalize hrc : tp.cells = rc at Gs Hf
     have Hrc := Lib.hid hrc
     clear hrc
     have hQ0 := hQin
     have hQd := kQ _ _ hQ0 (bt_drew (Below.refl _ W1))
     have hS0 := HS.out _ hQd
     refine wp_region_held_drew (S := (fun X => X.cell? ⟨w.heap.size, 36, none⟩ = some (.slice A n c) ∧ P1 X)) (by kernel_rfl) (hS0) (fun hHeld => ?_)
     refine tkE (i := 0) rfl ?_
     refine ldE (i := 1) rfl rfl rfl (tc) (fun W h => HG.out W h.2) Tryz.underlying46 rfl (Gt.l46) ?_
     refine tkE (i := 3) rfl ?_
     refine tkE (i := 4) rfl ?_
     refine tkE (i := 6) rfl ?_
     refine rdE2 (i := 2) (j := 12) rfl rfl (fun K hK => ?_) (fun K hK => ?_)
     ·
      go_simp
      go_at_call 23
      refine (C.h23 _).mono ?_
      rintro e w2 ⟨rfl, hbw⟩
      go_wp2_with fail
      have hQx := kQ _ _ hQd hbw
      refine hK.out _ _ (HS.out _ hQx) (fun hHeld => ?_)
      clear hK K hbw hQd
      have hQ := hQx
      clear hQx
      try simp only [Act.put, s1D, s2D, s3D]
      refine rdE2 (i := 5) (j := 12) rfl rfl (fun K hK => ?_) (fun K hK => ?_)
      ·
       go_simp
       go_at_call 24
       refine (C.h24 _ (HQ.out _ hQ)).mono ?_
       rintro e w3 ⟨⟨B, d, rfl, hcap, hr'⟩, hbw⟩
       go_wp2_with fail
       have hQx := kQ _ _ hQ hbw
       have hr := hr'
       clear hr'
       refine hK.out _ _ (HS.out _ hQx) (fun hHeld => ?_)
       clear hK K hbw hQ
       have hQ := hQx
       clear hQx
       try simp only [Act.put, s1D, s2D, s3D]
       refine rdE2 (i := 7) (j := 12) rfl rfl (fun K hK => ?_) (fun K hK => ?_)
       ·
        go_simp
        go_at_call 58
        refine (Hf _ _ _ hcap hr).mono ?_
        rintro e w4 ⟨⟨B1, d1, rfl, hr'⟩, hbw⟩
        go_wp2_with fail
        have hQx := kQ _ _ hQ hbw
        clear hr
        have hr := hr'
        clear hr'
        refine hK.out _ _ (HS.out _ hQx) (fun hHeld => ?_)
        clear hK K hbw hQ
        have hQ := hQx
        clear hQx
        try simp only [Act.put, s1D, s2D, s3D]
        refine tkE (i := 8) rfl ?_
        refine tkE (i := 9) rfl ?_
        refine tkE (i := 10) rfl ?_
        refine tkE (i := 11) rfl ?_
        have hQn := kQ _ _ hQ (bt_new w4 (.cells #[.string { data := #[] }, .string { data := #[] }, .string { data := #[] }, .string { data := #[] }, .string { data := #[] }, .string { data := #[] }, .string { data := #[] }, .string { data := #[] }, .string { data := #[] }, .int .i64 0, .int .i64 0, .int .i64 0, .int .i64 0, .int .i64 0, .int .i64 0, .int .i64 0, .int .i64 0, .int .i64 0, .string { data := #[] }, .string { data := #[] }, .string { data := #[] }, .string { data := #[] }, .string { data := #[] }, .string { data := #[] }, .string { data := #[] }, .string { data := #[] }, .string { data := #[] }, .int .i64 0, .int .i64 0, .int .i64 0, .int .i64 0, .int .i64 0, .int .i64 0, .int .i64 0, .int .i64 0, .int .i64 0] 54))
        refine rdE (i := 12) rfl (fun K hK => ?_)
        go_simp
        refine onE hK (HS.out _ hQn) (fun hHeld => ?_)
        clear hK K
        have hb := Bk.new w4 54 #[.string { data := #[] }, .string { data := #[] }, .string { data := #[] }, .string { data := #[] }, .string { data := #[] }, .string { data := #[] }, .string { data := #[] }, .string { data := #[] }, .string { data := #[] }, .int .i64 0, .int .i64 0, .int .i64 0, .int .i64 0, .int .i64 0, .int .i64 0, .int .i64 0, .int .i64 0, .int .i64 0, .string { data := #[] }, .string { data := #[] }, .string { data := #[] }, .string { data := #[] }, .string { data := #[] }, .string { data := #[] }, .string { data := #[] }, .string { data := #[] }, .string { data := #[] }, .int .i64 0, .int .i64 0, .int .i64 0, .int .i64 0, .int .i64 0, .int .i64 0, .int .i64 0, .int .i64 0, .int .i64 0]
        have hlo := Qlo.out _ hQ
        have hr2 := hr.below (bt_new w4 (.cells #[.string { data := #[] }, .string { data := #[] }, .string { data := #[] }, .string { data := #[] }, .string { data := #[] }, .string { data := #[] }, .string { data := #[] }, .string { data := #[] }, .string { data := #[] }, .int .i64 0, .int .i64 0, .int .i64 0, .int .i64 0, .int .i64 0, .int .i64 0, .int .i64 0, .int .i64 0, .int .i64 0, .string { data := #[] }, .string { data := #[] }, .string { data := #[] }, .string { data := #[] }, .string { data := #[] }, .string { data := #[] }, .string { data := #[] }, .string { data := #[] }, .string { data := #[] }, .int .i64 0, .int .i64 0, .int .i64 0, .int .i64 0, .int .i64 0, .int .i64 0, .int .i64 0, .int .i64 0, .int .i64 0] 54))
        clear hr hHeld
        have hr := hr2
        clear hr2
        generalize (w4.alloc (.cells #[.string { data := #[] }, .string { data := #[] }, .string { data := #[] }, .string { data := #[] }, .string { data := #[] }, .string { data := #[] }, .string { data := #[] }, .string { data := #[] }, .string { data := #[] }, .int .i64 0, .int .i64 0, .int .i64 0, .int .i64 0, .int .i64 0, .int .i64 0, .int .i64 0, .int .i64 0, .int .i64 0, .string { data := #[] }, .string { data := #[] }, .string { data := #[] }, .string { data := #[] }, .string { data := #[] }, .string { data := #[] }, .string { data := #[] }, .string { data := #[] }, .string { data := #[] }, .int .i64 0, .int .i64 0, .int .i64 0, .int .i64 0, .int .i64 0, .int .i64 0, .int .i64 0, .int .i64 0, .int .i64 0] 54)) = Wn at hQn hb hr ⊢
        generalize w4.heap.size = g at hb hlo ⊢
        clear hQ
        have hQ := hQn
        clear hQn
        refine rdE (i := 13) rfl (fun K hK => ?_)
        refine step_store rfl 54 _ _ rfl g 0 rc.toArray rfl rfl (hb.there _ (by rw [Gs.s36]; decide)) Gs.i54 Gs.one ?_
        have hPS := HQs.out _ g rc hQ hlo
        refine onE hK (HS.out _ hPS) (fun hHeld => ?_)
        clear hK K hHeld
        have hHeld := HS.out _ hPS
        refine tkE (i := 14) rfl ?_
        refine tkE (i := 15) rfl ?_
        refine wpAnyH_done (by kernel_rfl) ?_ _
        go_wp2_with fail
        go_meet
        exact ⟨hPS, g, B1, d1, rfl, rfl, rfl, by rw [Hrc.out]; simpa using hb.fill rc.toArray (by rw [Gs.s36]; rfl), rdc_z hr hb rc⟩
       ·
        go_simp
        have hQn : P1 (w3.alloc (.cells #[.string { data := #[] }, .string { data := #[] }, .string { data := #[] }, .string { data := #[] }, .string { data := #[] }, .string { data := #[] }, .string { data := #[] }, .string { data := #[] }, .string { data := #[] }, .int .i64 0, .int .i64 0, .int .i64 0, .int .i64 0, .int .i64 0, .int .i64 0, .int .i64 0, .int .i64 0, .int .i64 0, .string { data := #[] }, .string { data := #[] }, .string { data := #[] }, .string { data := #[] }, .string { data := #[] }, .string { data := #[] }, .string { data := #[] }, .string { data := #[] }, .string { data := #[] }, .int .i64 0, .int .i64 0, .int .i64 0, .int .i64 0, .int .i64 0, .int .i64 0, .int .i64 0, .int .i64 0, .int .i64 0] 54)) := kQ _ _ hQ (bt_new w3 _)
        refine onE hK (HS.out _ hQn) (fun hHeld => ?_)
        clear hK K
        have hb := Bk.new w3 54 #[.string { data := #[] }, .string { data := #[] }, .string { data := #[] }, .string { data := #[] }, .string { data := #[] }, .string { data := #[] }, .string { data := #[] }, .string { data := #[] }, .string { data := #[] }, .int .i64 0, .int .i64 0, .int .i64 0, .int .i64 0, .int .i64 0, .int .i64 0, .int .i64 0, .int .i64 0, .int .i64 0, .string { data := #[] }, .string { data := #[] }, .string { data := #[] }, .string { data := #[] }, .string { data := #[] }, .string { data := #[] }, .string { data := #[] }, .string { data := #[] }, .string { data := #[] }, .int .i64 0, .int .i64 0, .int .i64 0, .int .i64 0, .int .i64 0, .int .i64 0, .int .i64 0, .int .i64 0, .int .i64 0]
        have hlo := Qlo.out _ hQ
        have hr2 := hr.below (bt_new w3 (.cells #[.string { data := #[] }, .string { data := #[] }, .string { data := #[] }, .string { data := #[] }, .string { data := #[] }, .string { data := #[] }, .string { data := #[] }, .string { data := #[] }, .string { data := #[] }, .int .i64 0, .int .i64 0, .int .i64 0, .int .i64 0, .int .i64 0, .int .i64 0, .int .i64 0, .int .i64 0, .int .i64 0, .string { data := #[] }, .string { data := #[] }, .string { data := #[] }, .string { data := #[] }, .string { data := #[] }, .string { data := #[] }, .string { data := #[] }, .string { data := #[] }, .string { data := #[] }, .int .i64 0, .int .i64 0, .int .i64 0, .int .i64 0, .int .i64 0, .int .i64 0, .int .i64 0, .int .i64 0, .int .i64 0] 54))
        clear hr
        have hr := hr2
        clear hr2
        clear hHeld
        generalize (w3.alloc (.cells #[.string { data := #[] }, .string { data := #[] }, .string { data := #[] }, .string { data := #[] }, .string { data := #[] }, .string { data := #[] }, .string { data := #[] }, .string { data := #[] }, .string { data := #[] }, .int .i64 0, .int .i64 0, .int .i64 0, .int .i64 0, .int .i64 0, .int .i64 0, .int .i64 0, .int .i64 0, .int .i64 0, .string { data := #[] }, .string { data := #[] }, .string { data := #[] }, .string { data := #[] }, .string { data := #[] }, .string { data := #[] }, .string { data := #[] }, .string { data := #[] }, .string { data := #[] }, .int .i64 0, .int .i64 0, .int .i64 0, .int .i64 0, .int .i64 0, .int .i64 0, .int .i64 0, .int .i64 0, .int .i64 0] 54)) = Wn at hQn hb hr ⊢
        generalize w3.heap.size = g at hb hlo ⊢
        have hQ := hQn
        clear hQn
        refine rdE (i := 7) rfl (fun K hK => ?_)
        go_simp
        go_at_call 58
        refine (Hf _ _ _ hcap hr).mono ?_
        rintro e w4 ⟨⟨B1, d1, rfl, hr'⟩, hbw⟩
        go_wp2_with fail
        have hQx := kQ _ _ hQ hbw
        have hb2 := hb.below hbw hb.lt
        clear hb
        have hb := hb2
        clear hb2
        clear hr
        have hr := hr'
        clear hr'
        refine hK.out _ _ (HS.out _ hQx) (fun hHeld => ?_)
        clear hK K hbw hQ
        have hQ := hQx
        clear hQx
        try simp only [Act.put, s1D, s2D, s3D]
        refine tkE (i := 8) rfl ?_
        refine tkE (i := 9) rfl ?_
        refine tkE (i := 10) rfl ?_
        refine tkE (i := 11) rfl ?_
        refine rdE (i := 13) rfl (fun K hK => ?_)
        refine step_store rfl 54 _ _ rfl g 0 rc.toArray rfl rfl (hb.there _ (by rw [Gs.s36]; decide)) Gs.i54 Gs.one ?_
        have hPS := HQs.out _ g rc hQ hlo
        refine onE hK (HS.out _ hPS) (fun hHeld => ?_)
        clear hK K hHeld
        have hHeld := HS.out _ hPS
        refine tkE (i := 14) rfl ?_
        refine tkE (i := 15) rfl ?_
        refine wpAnyH_done (by kernel_rfl) ?_ _
        go_wp2_with fail
        go_meet
        exact ⟨hPS, g, B1, d1, rfl, rfl, rfl, by rw [Hrc.out]; simpa using hb.fill rc.toArray (by rw [Gs.s36]; rfl), rdc_z hr hb rc⟩
      ·
       go_simp
       have hQn : P1 (w2.alloc (.cells #[.string { data := #[] }, .string { data := #[] }, .string { data := #[] }, .string { data := #[] }, .string { data := #[] }, .string { data := #[] }, .string { data := #[] }, .string { data := #[] }, .string { data := #[] }, .int .i64 0, .int .i64 0, .int .i64 0, .int .i64 0, .int .i64 0, .int .i64 0, .int .i64 0, .int .i64 0, .int .i64 0, .string { data := #[] }, .string { data := #[] }, .string { data := #[] }, .string { data := #[] }, .string { data := #[] }, .string { data := #[] }, .string { data := #[] }, .string { data := #[] }, .string { data := #[] }, .int .i64 0, .int .i64 0, .int .i64 0, .int .i64 0, .int .i64 0, .int .i64 0, .int .i64 0, .int .i64 0, .int .i64 0] 54)) := kQ _ _ hQ (bt_new w2 _)
       refine onE hK (HS.out _ hQn) (fun hHeld => ?_)
       clear hK K
       have hb := Bk.new w2 54 #[.string { data := #[] }, .string { data := #[] }, .string { data := #[] }, .string { data := #[] }, .string { data := #[] }, .string { data := #[] }, .string { data := #[] }, .string { data := #[] }, .string { data := #[] }, .int .i64 0, .int .i64 0, .int .i64 0, .int .i64 0, .int .i64 0, .int .i64 0, .int .i64 0, .int .i64 0, .int .i64 0, .string { data := #[] }, .string { data := #[] }, .string { data := #[] }, .string { data := #[] }, .string { data := #[] }, .string { data := #[] }, .string { data := #[] }, .string { data := #[] }, .string { data := #[] }, .int .i64 0, .int .i64 0, .int .i64 0, .int .i64 0, .int .i64 0, .int .i64 0, .int .i64 0, .int .i64 0, .int .i64 0]
       have hlo := Qlo.out _ hQ
       clear hHeld
       generalize (w2.alloc (.cells #[.string { data := #[] }, .string { data := #[] }, .string { data := #[] }, .string { data := #[] }, .string { data := #[] }, .string { data := #[] }, .string { data := #[] }, .string { data := #[] }, .string { data := #[] }, .int .i64 0, .int .i64 0, .int .i64 0, .int .i64 0, .int .i64 0, .int .i64 0, .int .i64 0, .int .i64 0, .int .i64 0, .string { data := #[] }, .string { data := #[] }, .string { data := #[] }, .string { data := #[] }, .string { data := #[] }, .string { data := #[] }, .string { data := #[] }, .string { data := #[] }, .string { data := #[] }, .int .i64 0, .int .i64 0, .int .i64 0, .int .i64 0, .int .i64 0, .int .i64 0, .int .i64 0, .int .i64 0, .int .i64 0] 54)) = Wn at hQn hb  ⊢
       generalize w2.heap.size = g at hb hlo ⊢
       have hQ := hQn
       clear hQn
       refine rdE (i := 5) rfl (fun K hK => ?_)
       go_simp
       go_at_call 24
       refine (C.h24 _ (HQ.out _ hQ)).mono ?_
       rintro e w3 ⟨⟨B, d, rfl, hcap, hr'⟩, hbw⟩
       go_wp2_with fail
       have hQx := kQ _ _ hQ hbw
       have hb2 := hb.below hbw hb.lt
       clear hb
       have hb := hb2
       clear hb2
       have hr := hr'
       clear hr'
       refine hK.out _ _ (HS.out _ hQx) (fun hHeld => ?_)
       clear hK K hbw hQ
       have hQ := hQx
       clear hQx
       try simp only [Act.put, s1D, s2D, s3D]
       refine rdE (i := 7) rfl (fun K hK => ?_)
       go_simp
       go_at_call 58
       refine (Hf _ _ _ hcap hr).mono ?_
       rintro e w4 ⟨⟨B1, d1, rfl, hr'⟩, hbw⟩
       go_wp2_with fail
       have hQx := kQ _ _ hQ hbw
       have hb2 := hb.below hbw hb.lt
       clear hb
       have hb := hb2
       clear hb2
       clear hr
       have hr := hr'
       clear hr'
       refine hK.out _ _ (HS.out _ hQx) (fun hHeld => ?_)
       clear hK K hbw hQ
       have hQ := hQx
       clear hQx
       try simp only [Act.put, s1D, s2D, s3D]
       refine tkE (i := 8) rfl ?_
       refine tkE (i := 9) rfl ?_
       refine tkE (i := 10) rfl ?_
       refine tkE (i := 11) rfl ?_
       refine rdE (i := 13) rfl (fun K hK => ?_)
       refine step_store rfl 54 _ _ rfl g 0 rc.toArray rfl rfl (hb.there _ (by rw [Gs.s36]; decide)) Gs.i54 Gs.one ?_
       have hPS := HQs.out _ g rc hQ hlo
       refine onE hK (HS.out _ hPS) (fun hHeld => ?_)
       clear hK K hHeld
       have hHeld := HS.out _ hPS
       refine tkE (i := 14) rfl ?_
       refine tkE (i := 15) rfl ?_
       refine wpAnyH_done (by kernel_rfl) ?_ _
       go_wp2_with fail
       go_meet
       exact ⟨hPS, g, B1, d1, rfl, rfl, rfl, by rw [Hrc.out]; simpa using hb.fill rc.toArray (by rw [Gs.s36]; rfl), rdc_z hr hb rc⟩
     ·
      go_simp
      have hQn : P1 (W1.alloc (.cells #[.string { data := #[] }, .string { data := #[] }, .string { data := #[] }, .string { data := #[] }, .string { data := #[] }, .string { data := #[] }, .string { data := #[] }, .string { data := #[] }, .string { data := #[] }, .int .i64 0, .int .i64 0, .int .i64 0, .int .i64 0, .int .i64 0, .int .i64 0, .int .i64 0, .int .i64 0, .int .i64 0, .string { data := #[] }, .string { data := #[] }, .string { data := #[] }, .string { data := #[] }, .string { data := #[] }, .string { data := #[] }, .string { data := #[] }, .string { data := #[] }, .string { data := #[] }, .int .i64 0, .int .i64 0, .int .i64 0, .int .i64 0, .int .i64 0, .int .i64 0, .int .i64 0, .int .i64 0, .int .i64 0] 54)).drew := kQ _ _ hQ0 (bt_drew (bt_new W1 _))
      refine onE hK (HS.out _ hQn) (fun hHeld => ?_)
      clear hK K
      have hb := (Bk.new W1 54 #[.string { data := #[] }, .string { data := #[] }, .string { data := #[] }, .string { data := #[] }, .string { data := #[] }, .string { data := #[] }, .string { data := #[] }, .string { data := #[] }, .string { data := #[] }, .int .i64 0, .int .i64 0, .int .i64 0, .int .i64 0, .int .i64 0, .int .i64 0, .int .i64 0, .int .i64 0, .int .i64 0, .string { data := #[] }, .string { data := #[] }, .string { data := #[] }, .string { data := #[] }, .string { data := #[] }, .string { data := #[] }, .string { data := #[] }, .string { data := #[] }, .string { data := #[] }, .int .i64 0, .int .i64 0, .int .i64 0, .int .i64 0, .int .i64 0, .int .i64 0, .int .i64 0, .int .i64 0, .int .i64 0]).drew
      have hlo := Qlo.out _ hQ0
      clear hHeld
      generalize (W1.alloc (.cells #[.string { data := #[] }, .string { data := #[] }, .string { data := #[] }, .string { data := #[] }, .string { data := #[] }, .string { data := #[] }, .string { data := #[] }, .string { data := #[] }, .string { data := #[] }, .int .i64 0, .int .i64 0, .int .i64 0, .int .i64 0, .int .i64 0, .int .i64 0, .int .i64 0, .int .i64 0, .int .i64 0, .string { data := #[] }, .string { data := #[] }, .string { data := #[] }, .string { data := #[] }, .string { data := #[] }, .string { data := #[] }, .string { data := #[] }, .string { data := #[] }, .string { data := #[] }, .int .i64 0, .int .i64 0, .int .i64 0, .int .i64 0, .int .i64 0, .int .i64 0, .int .i64 0, .int .i64 0, .int .i64 0] 54)).drew = Wn at hQn hb  ⊢
      generalize W1.heap.size = g at hb hlo ⊢
      have hQ := hQn
      clear hQn
      refine rdE (i := 2) rfl (fun K hK => ?_)
      go_simp
      go_at_call 23
      refine (C.h23 _).mono ?_
      rintro e w2 ⟨rfl, hbw⟩
      go_wp2_with fail
      have hQx := kQ _ _ hQ hbw
      have hb2 := hb.below hbw hb.lt
      clear hb
      have hb := hb2
      clear hb2
      refine hK.out _ _ (HS.out _ hQx) (fun hHeld => ?_)
      clear hK K hbw hQ
      have hQ := hQx
      clear hQx
      try simp only [Act.put, s1D, s2D, s3D]
      refine rdE (i := 5) rfl (fun K hK => ?_)
      go_simp
      go_at_call 24
      refine (C.h24 _ (HQ.out _ hQ)).mono ?_
      rintro e w3 ⟨⟨B, d, rfl, hcap, hr'⟩, hbw⟩
      go_wp2_with fail
      have hQx := kQ _ _ hQ hbw
      have hb2 := hb.below hbw hb.lt
      clear hb
      have hb := hb2
      clear hb2
      have hr := hr'
      clear hr'
      refine hK.out _ _ (HS.out _ hQx) (fun hHeld => ?_)
      clear hK K hbw hQ
      have hQ := hQx
      clear hQx
      try simp only [Act.put, s1D, s2D, s3D]
      refine rdE (i := 7) rfl (fun K hK => ?_)
      go_simp
      go_at_call 58
      refine (Hf _ _ _ hcap hr).mono ?_
      rintro e w4 ⟨⟨B1, d1, rfl, hr'⟩, hbw⟩
      go_wp2_with fail
      have hQx := kQ _ _ hQ hbw
      have hb2 := hb.below hbw hb.lt
      clear hb
      have hb := hb2
      clear hb2
      clear hr
      have hr := hr'
      clear hr'
      refine hK.out _ _ (HS.out _ hQx) (fun hHeld => ?_)
      clear hK K hbw hQ
      have hQ := hQx
      clear hQx
      try simp only [Act.put, s1D, s2D, s3D]
      refine tkE (i := 8) rfl ?_
      refine tkE (i := 9) rfl ?_
      refine tkE (i := 10) rfl ?_
      refine tkE (i := 11) rfl ?_
      refine rdE (i := 13) rfl (fun K hK => ?_)
      refine step_store rfl 54 _ _ rfl g 0 rc.toArray rfl rfl (hb.there _ (by rw [Gs.s36]; decide)) Gs.i54 Gs.one ?_
      have hPS := HQs.out _ g rc hQ hlo
      refine onE hK (HS.out _ hPS) (fun hHeld => ?_)
      clear hK K hHeld
      have hHeld := HS.out _ hPS
      refine tkE (i := 14) rfl ?_
      refine tkE (i := 15) rfl ?_
      refine wpAnyH_done (by kernel_rfl) ?_ _
      go_wp2_with fail
      go_meet
      exact ⟨hPS, g, B1, d1, rfl, rfl, rfl, by rw [Hrc.out]; simpa using hb.fill rc.toArray (by rw [Gs.s36]; rfl), rdc_z hr hb rc⟩
   case rest =>
    obtain ⟨hPc, g8, B1, d1, rfl, rfl, rfl, hb8, hr8⟩ := hcut
    generalize wc = W2 at hPc hb8 hr8 ⊢
    obtain ⟨P2, kP2, hP2, oP2⟩ : ∃ P2 : World → Prop, Keep P2 ∧ P2 W2 ∧ Hid ((∀ X, P2 X → P X ∧ (Bk X g5 54 ts.cells.toArray ∧ RdC X B0 ls) ∧ (Bk X g8 54 tp.cells.toArray ∧ RdC X B1 lp) ∧ W2.heap.size ≤ X.heap.size) ∧ (∀ X g cs, P2 X → W2.heap.size ≤ g → P2 (X.setCells g 0 cs))) :=
     ⟨fun X => P1 X ∧ Below W2.heap.size W2 X, keep_and kP1 (keep_below W2), ⟨hPc, Below.refl _ _⟩, fun X h => ⟨(oP1.out.1 _ h.1).1, ⟨(oP1.out.1 _ h.1).2.1, (oP1.out.1 _ h.1).2.2.1⟩, ⟨hb8.below h.2 hb8.lt, hr8.below h.2⟩, h.2.size⟩, fun X g cs h hg => ⟨oP1.out.2 X g cs h.1 (Nat.le_trans (oP1.out.1 _ hPc).2.2.2 hg), below_sets hg h.2 _ _⟩⟩
    clear hPc hb8 hr8 hP1 kP1 oP1
    have hP2' := (oP2.out.1 _ hP2).1
    have c36 := Gp.c36 _ hP2'
    have hR := Gp.r _ hP2'
    go_upto_region 6 with (first
     | (refine wpList_load_cells rfl 46 _ rfl w.heap.size 0 rfl tc (fun j hj => by rw [List.getElem?_eq_getElem hj]; exact hR j _ (List.getElem?_eq_getElem hj)) _ Tryz.underlying46 rfl Gt.l46 ?_)
     | (go_at_call 26; refine (C.h26 _ hP2').mono ?_; rintro e w8 ⟨rfl, hb8⟩))
    have hP3 := kP2 _ _ hP2 hb8
    clear hP2 hP2' c36 hR hb8
    go_upto_region 7 with (first
     | (go_at_call 39; refine (refRange_any _ _ _ _).mono ?_; rintro e w' ⟨rfl, rfl⟩)
     | (go_at_call 38; refine (lfirst2 _ _ _ _ _ _ (by exact heap_alloc_new _ _)).mono ?_; rintro e w' ⟨rfl, rfl⟩))
    have hPc := kP2 _ _ hP3 (bt_new w8 (.cells #[.int .i64 cc, .int .i64 (withinE p 0 256)] 3))
    clear hP3
    generalize (w8.alloc (.cells #[.int .i64 cc, .int .i64 (withinE p 0 256)] 3)) = W3 at hPc ⊢
    rw [C.hbad]
    go_upto_region 8 with fail
    have hle13 := (oP2.out.1 _ hPc).2.2.2
    have hb13 : Bk ((W3.alloc (.cells #[.string { data := #[] }, .string { data := #[] }, .string { data := #[] }, .string { data := #[] }, .string { data := #[] }, .string { data := #[] }, .string { data := #[] }, .string { data := #[] }, .string { data := #[] }, .int .i64 0, .int .i64 0, .int .i64 0, .int .i64 0, .int .i64 0, .int .i64 0, .int .i64 0, .int .i64 0, .int .i64 0, .string { data := #[] }, .string { data := #[] }, .string { data := #[] }, .string { data := #[] }, .string { data := #[] }, .string { data := #[] }, .string { data := #[] }, .string { data := #[] }, .string { data := #[] }, .int .i64 0, .int .i64 0, .int .i64 0, .int .i64 0, .int .i64 0, .int .i64 0, .int .i64 0, .int .i64 0, .int .i64 0] 46)).alloc (.cells #[.string { data := #[] }, .string { data := #[] }, .string { data := #[] }, .string { data := #[] }, .string { data := #[] }, .string { data := #[] }, .string { data := #[] }, .string { data := #[] }, .string { data := #[] }, .int .i64 0, .int .i64 0, .int .i64 0, .int .i64 0, .int .i64 0, .int .i64 0, .int .i64 0, .int .i64 0, .int .i64 0, .string { data := #[] }, .string { data := #[] }, .string { data := #[] }, .string { data := #[] }, .string { data := #[] }, .string { data := #[] }, .string { data := #[] }, .string { data := #[] }, .string { data := #[] }, .int .i64 0, .int .i64 0, .int .i64 0, .int .i64 0, .int .i64 0, .int .i64 0, .int .i64 0, .int .i64 0, .int .i64 0] 46)) W3.heap.size 46 #[.string { data := #[] }, .string { data := #[] }, .string { data := #[] }, .string { data := #[] }, .string { data := #[] }, .string { data := #[] }, .string { data := #[] }, .string { data := #[] }, .string { data := #[] }, .int .i64 0, .int .i64 0, .int .i64 0, .int .i64 0, .int .i64 0, .int .i64 0, .int .i64 0, .int .i64 0, .int .i64 0, .string { data := #[] }, .string { data := #[] }, .string { data := #[] }, .string { data := #[] }, .string { data := #[] }, .string { data := #[] }, .string { data := #[] }, .string { data := #[] }, .string { data := #[] }, .int .i64 0, .int .i64 0, .int .i64 0, .int .i64 0, .int .i64 0, .int .i64 0, .int .i64 0, .int .i64 0, .int .i64 0] := (Bk.new W3 46 _).alloc _
    have hb14 : Bk ((W3.alloc (.cells #[.string { data := #[] }, .string { data := #[] }, .string { data := #[] }, .string { data := #[] }, .string { data := #[] }, .string { data := #[] }, .string { data := #[] }, .string { data := #[] }, .string { data := #[] }, .int .i64 0, .int .i64 0, .int .i64 0, .int .i64 0, .int .i64 0, .int .i64 0, .int .i64 0, .int .i64 0, .int .i64 0, .string { data := #[] }, .string { data := #[] }, .string { data := #[] }, .string { data := #[] }, .string { data := #[] }, .string { data := #[] }, .string { data := #[] }, .string { data := #[] }, .string { data := #[] }, .int .i64 0, .int .i64 0, .int .i64 0, .int .i64 0, .int .i64 0, .int .i64 0, .int .i64 0, .int .i64 0, .int .i64 0] 46)).alloc (.cells #[.string { data := #[] }, .string { data := #[] }, .string { data := #[] }, .string { data := #[] }, .string { data := #[] }, .string { data := #[] }, .string { data := #[] }, .string { data := #[] }, .string { data := #[] }, .int .i64 0, .int .i64 0, .int .i64 0, .int .i64 0, .int .i64 0, .int .i64 0, .int .i64 0, .int .i64 0, .int .i64 0, .string { data := #[] }, .string { data := #[] }, .string { data := #[] }, .string { data := #[] }, .string { data := #[] }, .string { data := #[] }, .string { data := #[] }, .string { data := #[] }, .string { data := #[] }, .int .i64 0, .int .i64 0, .int .i64 0, .int .i64 0, .int .i64 0, .int .i64 0, .int .i64 0, .int .i64 0, .int .i64 0] 46)) (W3.heap.size + 1) 46 #[.string { data := #[] }, .string { data := #[] }, .string { data := #[] }, .string { data := #[] }, .string { data := #[] }, .string { data := #[] }, .string { data := #[] }, .string { data := #[] }, .string { data := #[] }, .int .i64 0, .int .i64 0, .int .i64 0, .int .i64 0, .int .i64 0, .int .i64 0, .int .i64 0, .int .i64 0, .int .i64 0, .string { data := #[] }, .string { data := #[] }, .string { data := #[] }, .string { data := #[] }, .string { data := #[] }, .string { data := #[] }, .string { data := #[] }, .string { data := #[] }, .string { data := #[] }, .int .i64 0, .int .i64 0, .int .i64 0, .int .i64 0, .int .i64 0, .int .i64 0, .int .i64 0, .int .i64 0, .int .i64 0] := by
     have := Bk.new (W3.alloc (.cells #[.string { data := #[] }, .string { data := #[] }, .string { data := #[] }, .string { data := #[] }, .string { data := #[] }, .string { data := #[] }, .string { data := #[] }, .string { data := #[] }, .string { data := #[] }, .int .i64 0, .int .i64 0, .int .i64 0, .int .i64 0, .int .i64 0, .int .i64 0, .int .i64 0, .int .i64 0, .int .i64 0, .string { data := #[] }, .string { data := #[] }, .string { data := #[] }, .string { data := #[] }, .string { data := #[] }, .string { data := #[] }, .string { data := #[] }, .string { data := #[] }, .string { data := #[] }, .int .i64 0, .int .i64 0, .int .i64 0, .int .i64 0, .int .i64 0, .int .i64 0, .int .i64 0, .int .i64 0, .int .i64 0] 46)) 46 #[.string { data := #[] }, .string { data := #[] }, .string { data := #[] }, .string { data := #[] }, .string { data := #[] }, .string { data := #[] }, .string { data := #[] }, .string { data := #[] }, .string { data := #[] }, .int .i64 0, .int .i64 0, .int .i64 0, .int .i64 0, .int .i64 0, .int .i64 0, .int .i64 0, .int .i64 0, .int .i64 0, .string { data := #[] }, .string { data := #[] }, .string { data := #[] }, .string { data := #[] }, .string { data := #[] }, .string { data := #[] }, .string { data := #[] }, .string { data := #[] }, .string { data := #[] }, .int .i64 0, .int .i64 0, .int .i64 0, .int .i64 0, .int .i64 0, .int .i64 0, .int .i64 0, .int .i64 0, .int .i64 0]
     rwa [World.size_alloc] at this
    have hP4 := kP2 _ _ hPc (bt_alloc (bt_new W3 (.cells #[.string { data := #[] }, .string { data := #[] }, .string { data := #[] }, .string { data := #[] }, .string { data := #[] }, .string { data := #[] }, .string { data := #[] }, .string { data := #[] }, .string { data := #[] }, .int .i64 0, .int .i64 0, .int .i64 0, .int .i64 0, .int .i64 0, .int .i64 0, .int .i64 0, .int .i64 0, .int .i64 0, .string { data := #[] }, .string { data := #[] }, .string { data := #[] }, .string { data := #[] }, .string { data := #[] }, .string { data := #[] }, .string { data := #[] }, .string { data := #[] }, .string { data := #[] }, .int .i64 0, .int .i64 0, .int .i64 0, .int .i64 0, .int .i64 0, .int .i64 0, .int .i64 0, .int .i64 0, .int .i64 0] 46)) (.cells #[.string { data := #[] }, .string { data := #[] }, .string { data := #[] }, .string { data := #[] }, .string { data := #[] }, .string { data := #[] }, .string { data := #[] }, .string { data := #[] }, .string { data := #[] }, .int .i64 0, .int .i64 0, .int .i64 0, .int .i64 0, .int .i64 0, .int .i64 0, .int .i64 0, .int .i64 0, .int .i64 0, .string { data := #[] }, .string { data := #[] }, .string { data := #[] }, .string { data := #[] }, .string { data := #[] }, .string { data := #[] }, .string { data := #[] }, .string { data := #[] }, .string { data := #[] }, .int .i64 0, .int .i64 0, .int .i64 0, .int .i64 0, .int .i64 0, .int .i64 0, .int .i64 0, .int .i64 0, .int .i64 0] 46))
    have hne : W3.heap.size ≠ W3.heap.size + 1 := by omega
    have hle14 : W2.heap.size ≤ W3.heap.size + 1 := by omega
    clear hPc
    generalize ((W3.alloc (.cells #[.string { data := #[] }, .string { data := #[] }, .string { data := #[] }, .string { data := #[] }, .string { data := #[] }, .string { data := #[] }, .string { data := #[] }, .string { data := #[] }, .string { data := #[] }, .int .i64 0, .int .i64 0, .int .i64 0, .int .i64 0, .int .i64 0, .int .i64 0, .int .i64 0, .int .i64 0, .int .i64 0, .string { data := #[] }, .string { data := #[] }, .string { data := #[] }, .string { data := #[] }, .string { data := #[] }, .string { data := #[] }, .string { data := #[] }, .string { data := #[] }, .string { data := #[] }, .int .i64 0, .int .i64 0, .int .i64 0, .int .i64 0, .int .i64 0, .int .i64 0, .int .i64 0, .int .i64 0, .int .i64 0] 46)).alloc (.cells #[.string { data := #[] }, .string { data := #[] }, .string { data := #[] }, .string { data := #[] }, .string { data := #[] }, .string { data := #[] }, .string { data := #[] }, .string { data := #[] }, .string { data := #[] }, .int .i64 0, .int .i64 0, .int .i64 0, .int .i64 0, .int .i64 0, .int .i64 0, .int .i64 0, .int .i64 0, .int .i64 0, .string { data := #[] }, .string { data := #[] }, .string { data := #[] }, .string { data := #[] }, .string { data := #[] }, .string { data := #[] }, .string { data := #[] }, .string { data := #[] }, .string { data := #[] }, .int .i64 0, .int .i64 0, .int .i64 0, .int .i64 0, .int .i64 0, .int .i64 0, .int .i64 0, .int .i64 0, .int .i64 0] 46)) = W4 at hb13 hb14 hP4 ⊢
    generalize W3.heap.size + 1 = g14 at hb14 hne hle14 ⊢
    generalize W3.heap.size = g13 at hb13 hne hle13 ⊢
    have Hne := Lib.hid hne; have Hl3 := Lib.hid hle13; have Hl4 := Lib.hid hle14
    clear hne hle13 hle14
    go_upto_region 9 with fail
    go_cut [59] from 17 (fun s59 wr => s59 = .bool (cc == 0) ∧ wr = W4)
    case first =>
     go_wp2
     go_meet
     exact ⟨rfl, rfl⟩
    case rest =>
    obtain ⟨rfl, hwc⟩ := hcut
    rw [hwc]
    clear hwc
    go_step
    go_cut [15] from 17 (fun s15 wr => P2 wr ∧ Bk wr g13 46 ts.cells.toArray ∧ Bk wr g14 46 #[.string { data := #[] }, .string { data := #[] }, .string { data := #[] }, .string { data := #[] }, .string { data := #[] }, .string { data := #[] }, .string { data := #[] }, .string { data := #[] }, .string { data := #[] }, .int .i64 0, .int .i64 0, .int .i64 0, .int .i64 0, .int .i64 0, .int .i64 0, .int .i64 0, .int .i64 0, .int .i64 0, .string { data := #[] }, .string { data := #[] }, .string { data := #[] }, .string { data := #[] }, .string { data := #[] }, .string { data := #[] }, .string { data := #[] }, .string { data := #[] }, .string { data := #[] }, .int .i64 0, .int .i64 0, .int .i64 0, .int .i64 0, .int .i64 0, .int .i64 0, .int .i64 0, .int .i64 0, .int .i64 0] ∧ ∃ B d, s15 = .slice B ms d ∧ RdC wr B ls)
    case first =>
     by_cases h0 : cc = 0
     ·
      have hz : (cc == 0) = true := by simpa using h0
      have Hf := C.h59 h0
      have Gs := tc_of ts C.hok.1
      generalize hsc : ts.cells = sc at Hf Gs
      have Hsc := Lib.hid hsc
      have hP2' := (oP2.out.1 _ hP4).1
      have c36 := Gp.c36 _ hP2'
      have hR := Gp.r _ hP2'
      clear h0 hsc
      go_wp2_with (first
       | (refine wpList_load_cells rfl 46 _ rfl w.heap.size 0 rfl tc (fun j hj => by rw [List.getElem?_eq_getElem hj]; exact hR j _ (List.getElem?_eq_getElem hj)) _ Tryz.underlying46 rfl Gt.l46 ?_)
       | (go_at_call 59; with_reducible refine (Hf _ hP2').mono ?_; rintro e w9 ⟨⟨B2, d2, rfl, hr9⟩, hb9⟩)
       | (refine wpList_store_mid rfl 46 (.tmp 13) (.tmp 66) rfl g13 0 sc.toArray rfl rfl ((hb13.below hb9 hb13.lt).there _ (by rw [Gs.s36]; decide)) Gs.i46 Gs.one ?_))
      go_meet
      have h13 := hb13.below hb9 hb13.lt
      exact ⟨oP2.out.2 _ g13 _ (kP2 _ _ hP4 hb9) Hl3.out, by rw [Hsc.out]; simpa using h13.fill sc.toArray (by rw [Gs.s36]; rfl), Bk.setsFar Hne.out.symm _ _ (hb14.below hb9 hb14.lt), B2, d2, rfl, rdc_z hr9 h13 _⟩
     ·
      have hz : (cc == 0) = false := by simpa using h0
      obtain ⟨e1, e2, e3⟩ := C.hz1 h0
      have He1 := Lib.hid e1; have He2 := Lib.hid e2; have He3 := Lib.hid e3
      clear h0 e1 e2 e3
      go_wp2
      go_meet
      exact ⟨hP4, by rw [He1.out]; exact hb13, hb14, none, 0, by rw [He3.out], by rw [He2.out]; exact fun k hk => absurd hk (by simp)⟩
    case rest =>
    obtain ⟨hP5, hq13, hq14, B2, d2, rfl, hr2⟩ := hcut
    clear hb13 hb14 hP4
    generalize wc = W5 at hP5 hq13 hq14 hr2 ⊢
    go_upto_region 11 with fail
    go_cut [69] from 17 (fun s69 wr => s69 = .bool (bad == 0) ∧ wr = W5)
    case first =>
     go_wp2
     go_meet
     exact ⟨rfl, rfl⟩
    case rest =>
    obtain ⟨rfl, hwc⟩ := hcut
    rw [hwc]
    clear hwc
    go_step
    go_cut [16] from 17 (fun s16 wr => P2 wr ∧ Bk wr g13 46 ts.cells.toArray ∧ Bk wr g14 46 tp.cells.toArray ∧ RdC wr B2 ls ∧ ∃ B d, s16 = .slice B mp d ∧ RdC wr B lp)
    case first =>
     by_cases h0 : bad = 0
     ·
      have hz : (bad == 0) = true := by simpa using h0
      have Hf := C.h60 h0
      have Gs := tc_of tp C.hok.2
      generalize hsc : tp.cells = sc at Hf Gs
      have Hsc := Lib.hid hsc
      have hP2' := (oP2.out.1 _ hP5).1
      have c36 := Gp.c36 _ hP2'
      have hR := Gp.r _ hP2'
      clear h0 hsc
      go_wp2_with (first
       | (refine wpList_load_cells rfl 46 _ rfl w.heap.size 0 rfl tc (fun j hj => by rw [List.getElem?_eq_getElem hj]; exact hR j _ (List.getElem?_eq_getElem hj)) _ Tryz.underlying46 rfl Gt.l46 ?_)
       | (go_at_call 60; with_reducible refine (Hf _ hP2').mono ?_; rintro e w9 ⟨⟨B3, d3, rfl, hr9⟩, hb9⟩)
       | (refine wpList_store_mid rfl 46 (.tmp 14) (.tmp 77) rfl g14 0 sc.toArray rfl rfl ((hq14.below hb9 hq14.lt).there _ (by rw [Gs.s36]; decide)) Gs.i46 Gs.one ?_))
      go_meet
      have h14 := hq14.below hb9 hq14.lt
      exact ⟨oP2.out.2 _ g14 _ (kP2 _ _ hP5 hb9) Hl4.out, Bk.setsFar Hne.out _ _ (hq13.below hb9 hq13.lt), by rw [Hsc.out]; simpa using h14.fill sc.toArray (by rw [Gs.s36]; rfl), rdc_z (hr2.below hb9) h14 _, B3, d3, rfl, rdc_z hr9 h14 _⟩
     ·
      have hz : (bad == 0) = false := by simpa using h0
      obtain ⟨e1, e2, e3⟩ := C.hz2 h0
      have He1 := Lib.hid e1; have He2 := Lib.hid e2; have He3 := Lib.hid e3
      clear h0 e1 e2 e3
      go_wp2
      go_meet
      exact ⟨hP5, hq13, by rw [He1.out]; exact hq14, hr2, none, 0, by rw [He3.out], by rw [He2.out]; exact fun k hk => absurd hk (by simp)⟩
    case rest =>
    obtain ⟨hP6, hs13, hs14, hr6, B3, d3, rfl, hr3⟩ := hcut
    clear hP5 hq13 hq14 hr2
    generalize wc = W6 at hP6 hs13 hs14 hr6 hr3 ⊢
    have Gs := tc_of ts C.hok.1
    have Gq := tc_of tp C.hok.2
    have E1 : ∀ W, (binOp .eql 46 (.agg ts.cells.toArray) (.agg ts.cells.toArray)).run Tryz.prog W = .ok (.bool true) W := fun W => by rw [op_eql46 W _ _ C.hok.1 C.hok.1]; simp
    have E2 : ∀ W, (binOp .eql 46 (.agg tp.cells.toArray) (.agg tp.cells.toArray)).run Tryz.prog W = .ok (.bool true) W := fun W => by rw [op_eql46 W _ _ C.hok.2 C.hok.2]; simp
    have O1 : ∀ W, Calls Tryz.prog 29 #[.agg ts.cells.toArray] W fun x w' => x = .returned (.agg ts.cells.toArray) ∧ Below W.heap.size W w' := fun W => own_any ts C.hok.1 _ rfl W
    have O2 : ∀ W, Calls Tryz.prog 29 #[.agg tp.cells.toArray] W fun x w' => x = .returned (.agg tp.cells.toArray) ∧ Below W.heap.size W w' := fun W => own_any tp C.hok.2 _ rfl W
    have S1 : ∀ W A', ∀ c', RdC W A' ls → RdC W B2 ls → Calls Tryz.prog 30 #[.slice A' ms c', .slice B2 ms d2] W fun x w' => x = .returned (.bool true) ∧ Below W.heap.size W w' := fun W A' c' h1 h2 =>
     (sameChanges_any ls ls A' B2 ms ms c' d2 W C.hl.1 C.hl.1 C.hl.2.2.1 h1 h2).mono fun x w' ⟨e, q, e2⟩ => ⟨by rw [e]; simp, by rw [e2]; exact bt_drewN (Below.refl _ _) q⟩
    have S2 : ∀ W A', ∀ c', RdC W A' lp → RdC W B3 lp → Calls Tryz.prog 30 #[.slice A' mp c', .slice B3 mp d3] W fun x w' => x = .returned (.bool true) ∧ Below W.heap.size W w' := fun W A' c' h1 h2 =>
     (sameChanges_any lp lp A' B3 mp mp c' d3 W C.hl.2.1 C.hl.2.1 C.hl.2.2.2 h1 h2).mono fun x w' ⟨e, q, e2⟩ => ⟨by rw [e]; simp, by rw [e2]; exact bt_drewN (Below.refl _ _) q⟩
    have L1 : ∀ W, RdC W B0 ls → Calls Tryz.prog 31 #[.slice B0 ms d0] W fun x w' => (∃ A' c', x = .returned (.slice A' ms c') ∧ RdC w' A' ls) ∧ Below W.heap.size W w' := fun W h =>
     (changes_any ls B0 ms d0 C.hl.1 C.hl.2.2.1 W h).mono fun x w' ⟨⟨v, e, hv⟩, hb⟩ => by
      obtain ⟨hx, A', c', rfl, hr⟩ := hv
      exact ⟨⟨A', c', e, RdC.of_slk ⟨hx, A', c', rfl, hr⟩⟩, hb⟩
    have L2 : ∀ W, RdC W B1 lp → Calls Tryz.prog 31 #[.slice B1 mp d1] W fun x w' => (∃ A' c', x = .returned (.slice A' mp c') ∧ RdC w' A' lp) ∧ Below W.heap.size W w' := fun W h =>
     (changes_any lp B1 mp d1 C.hl.2.1 C.hl.2.2.2 W h).mono fun x w' ⟨⟨v, e, hv⟩, hb⟩ => by
      obtain ⟨hx, A', c', rfl, hr⟩ := hv
      exact ⟨⟨A', c', e, RdC.of_slk ⟨hx, A', c', rfl, hr⟩⟩, hb⟩
    obtain ⟨R, kR, hR, oR⟩ : ∃ R : World → Prop, Keep R ∧ R W6 ∧ Hid (∀ X, R X → (X.rangeAt g5 0 ts.cells ∧ X.rangeAt g8 0 tp.cells ∧ X.rangeAt g13 0 ts.cells ∧ X.rangeAt g14 0 tp.cells) ∧ (RdC X B0 ls ∧ RdC X B1 lp ∧ RdC X B2 ls ∧ RdC X B3 lp) ∧ Below w.heap.size w X) :=
     ⟨fun X => (P2 X ∧ Bk X g13 46 ts.cells.toArray ∧ Bk X g14 46 tp.cells.toArray) ∧ RdC X B2 ls ∧ RdC X B3 lp, keep_and (keep_and kP2 (keep_and (keep_bk _ _ _) (keep_bk _ _ _))) (keep_and (keep_rdc _ _) (keep_rdc _ _)), ⟨⟨hP6, hs13, hs14⟩, hr6, hr3⟩, fun X h => by
      have q := oP2.out.1 _ h.1.1
      exact ⟨⟨bkRangeT q.2.1.1, bkRangeT q.2.2.1.1, bkRangeT h.1.2.1, bkRangeT h.1.2.2⟩, ⟨q.2.1.2, q.2.2.1.2, h.2.1, h.2.2⟩, Gp.below _ q.1⟩⟩
    have l54 := Gs.l54; have l46 := Gs.l46; have q54 := Gq.l54; have q46 := Gq.l46
    clear hP6 hs13 hs14 hr6 hr3 C Gp Gt Gs Gq oP2 kP2 Hne Hl3 Hl4
    generalize ts.cells = sc at *
    generalize tp.cells = pc at *
    have HE1 := Lib.hid E1; have HE2 := Lib.hid E2; have HO1 := Lib.hid O1; have HO2 := Lib.hid O2; have HS1 := Lib.hid S1; have HS2 := Lib.hid S2; have HL1 := Lib.hid L1; have HL2 := Lib.hid L2; have J1 := Lib.hid l54; have J2 := Lib.hid l46; have J3 := Lib.hid q54; have J4 := Lib.hid q46
    clear E1 E2 O1 O2 S1 S2 L1 L2 l54 l46 q54 q46
    have z1 : (cc == cc) = true := by simp
    have z2 : (bad == bad) = true := by simp
    have hR0 := kR _ _ hR (bt_drew (Below.refl _ W6))
    go_upto_region 13 with fail
    refine wp_region_held_drew (S := R) (by kernel_rfl) (hR0) (fun hHeld => ?_)
    refine ldE (i := 0) rfl rfl rfl (sc) (fun W h => (oR.out W h).1.1) Tryz.underlying54 rfl (J1.out) ?_
    refine ldE (i := 2) rfl rfl rfl (sc) (fun W h => (oR.out W h).1.2.2.1) Tryz.underlying46 rfl (J2.out) ?_
    refine rdE (i := 1) rfl (fun K hK => ?_)
    go_simp
    (go_at_call 29; refine (HO1.out _).mono ?_; rintro e w1 ⟨rfl, hb1⟩)
    go_wp2_with fail
    refine onE hK (kR _ _ hHeld hb1) (fun hHeld => ?_)
    clear hK K
    have e1 := HE1.out
    refine tkE (i := 3) rfl ?_
    clear e1
    refine tkE (i := 4) rfl ?_
    refine tkE (i := 5) rfl ?_
    refine tkE (i := 7) rfl ?_
    refine rdE (i := 6) rfl (fun K hK => ?_)
    go_simp
    (go_at_call 31; refine (HL1.out _ (oR.out _ hHeld).2.1.1).mono ?_; rintro e w2 ⟨⟨A2, c2, rfl, hr2⟩, hb2⟩)
    go_wp2_with fail
    refine onE hK (kR _ _ hHeld hb2) (fun hHeld => ?_)
    clear hK K
    refine rdE (i := 8) rfl (fun K hK => ?_)
    go_simp
    (go_at_call 30; refine (HS1.out _ _ _ hr2 (oR.out _ hHeld).2.1.2.2.1).mono ?_; rintro e w3 ⟨rfl, hb3⟩)
    go_wp2_with fail
    refine onE hK (kR _ _ hHeld hb3) (fun hHeld => ?_)
    clear hK K
    refine tkE (i := 9) rfl ?_
    refine tkE (i := 10) rfl ?_
    refine tkE (i := 11) rfl ?_
    refine tkE (i := 12) rfl ?_
    refine tkE (i := 13) rfl ?_
    refine tkE (i := 14) rfl ?_
    refine tkE (i := 15) rfl ?_
    refine ldE (i := 16) rfl rfl rfl (pc) (fun W h => (oR.out W h).1.2.1) Tryz.underlying54 rfl (J3.out) ?_
    refine ldE (i := 18) rfl rfl rfl (pc) (fun W h => (oR.out W h).1.2.2.2) Tryz.underlying46 rfl (J4.out) ?_
    refine rdE (i := 17) rfl (fun K hK => ?_)
    go_simp
    (go_at_call 29; refine (HO2.out _).mono ?_; rintro e w4 ⟨rfl, hb4⟩)
    go_wp2_with fail
    refine onE hK (kR _ _ hHeld hb4) (fun hHeld => ?_)
    clear hK K
    have e2 := HE2.out
    refine tkE (i := 19) rfl ?_
    clear e2
    refine tkE (i := 20) rfl ?_
    refine tkE (i := 21) rfl ?_
    refine tkE (i := 22) rfl ?_
    refine tkE (i := 24) rfl ?_
    refine rdE (i := 23) rfl (fun K hK => ?_)
    go_simp
    (go_at_call 31; refine (HL2.out _ (oR.out _ hHeld).2.1.2.1).mono ?_; rintro e w5 ⟨⟨A5, c5, rfl, hr5⟩, hb5⟩)
    go_wp2_with fail
    refine onE hK (kR _ _ hHeld hb5) (fun hHeld => ?_)
    clear hK K
    refine rdE (i := 25) rfl (fun K hK => ?_)
    go_simp
    (go_at_call 30; refine (HS2.out _ _ _ hr5 (oR.out _ hHeld).2.1.2.2.2).mono ?_; rintro e w6 ⟨rfl, hb6⟩)
    go_wp2_with fail
    refine onE hK (kR _ _ hHeld hb6) (fun hHeld => ?_)
    clear hK K
    refine tkE (i := 26) rfl ?_
    refine tkE (i := 27) rfl ?_
    refine tkE (i := 28) rfl ?_
    refine tkE (i := 29) rfl ?_
    refine tkE (i := 30) rfl ?_
    refine tkE (i := 31) rfl ?_
    refine tkE (i := 32) rfl ?_
    refine wpAnyH_done (by kernel_rfl) ?_ _
    go_wp2
    go_ret
    exact ⟨ret_bool (by first | rfl | simp), (oR.out _ hHeld).2.2⟩
end Go.Proofs.YtmagppkclnebjaaGreatDoor

set_option linter.unusedSimpArgs false
set_option linter.unusedVariables false
namespace Go.Proofs.YtmagppkclnebjaaGreatDoor
open Go.RowKit
open L

set_option maxHeartbeats 8000000 in
set_option maxRecDepth 100000 in
theorem splLaw_any (t : Tms) (ht : t.ok) (l : List Chg) (A : Option Addr) (n c : Nat) (hn : l.length = n) (x : Int)
 (hsz : ∀ s ∈ t.l0.b ++ t.l1.b, s.size ≤ 9223372036854775807) (hszl : ∀ d ∈ l, d.name.size ≤ 9223372036854775807) (w : World) (hl : RdC w A l) (hE : Env w) (G : Array Value) (hG : G = (t.cells ++ [Value.slice A n c]).toArray) :
 Calls Tryz.prog 11 #[.agg G, .int .i64 x] w fun x w' => x = .returned (.bool true) ∧ Below w.heap.size w w' := by
 have haw : ∀ W, Below w.heap.size w W → Calls Tryz.prog 13 #[] W fun x w' => x = .returned (.bool true) ∧ Below W.heap.size W w' := fun W h => awake_any W (env_below hE h)
 obtain ⟨P, Gp, hP⟩ := gp_of1 t ht A n c G hG w
 by_cases hsh : shortL t l = true
 ·
  have hn66 : n ≤ 8 ∨ (64 < n ∧ n ≤ 66) := by
   have := (short_parts hsh).1
   rw [hn] at this
   unfold shortN at this
   simp at this; omega
  exact spl_main P w t.cells A n c x l _ _ _ _ _ _ _ _ Gp (tc_of t ht) (spl_facts P w t ht l A n c hn x hn66 hsz hszl hl haw Gp hsh) G hP
 ·
  have H21 : ∀ W, P W → Calls Tryz.prog 21 #[.agg (t.cells ++ [Value.slice A n c]).toArray] W fun x w' => x = .returned (.bool false) ∧ Below W.heap.size W w' := fun W h => by
   have := short_any t ht _ l A n c rfl hn W (hl.below (Gp.below _ h))
   rw [show shortL t l = false by simpa using hsh] at this; exact this
  have Haw : ∀ W, P W → Calls Tryz.prog 13 #[] W fun x w' => x = .returned (.bool true) ∧ Below W.heap.size W w' := fun W h => haw W (Gp.below _ h)
  have hgr := Gp.rg
  have hi49 := Gp.i49
  have Hgr := Lib.hid hgr; have Hi49 := Lib.hid hi49; have H21' := Lib.hid H21; have Haw' := Lib.hid Haw
  clear hsh hG ht hn hsz hszl hl haw H21 Haw hgr hi49 hE
  generalize (t.cells ++ [Value.slice A n c]) = gc at Hgr Hi49 H21'
  go_enter Tryz.func11, Tryz.ntmps11
  go_upto_region 1 with fail
  generalize (w.alloc (.cells G 49)) = W0 at hP ⊢
  go_wp2_with (first
   | (go_at_call 13; refine (Haw'.out _ hP).mono ?_; rintro e w1 ⟨rfl, hb1⟩; have hP1 := Gp.kp _ _ hP hb1)
   | (refine wpList_load_cells_g 49 _ rfl w.heap.size 0 rfl gc (fun j hj => by rw [List.getElem?_eq_getElem hj]; exact Hgr.out _ hP1 j _ (List.getElem?_eq_getElem hj)) _ Tryz.underlying49 rfl Hi49.out rfl ?_)
   | (go_at_call 21; refine (H21'.out _ hP1).mono ?_; rintro e w2 ⟨rfl, hb2⟩; have hP2 := Gp.kp _ _ hP1 hb2))
  refine (Haw'.out _ hP2).mono ?_
  rintro e w3 ⟨rfl, hb3⟩
  go_wp2
  go_ret
  exact ⟨rfl, Gp.below _ (Gp.kp _ _ hP2 hb3)⟩
end Go.Proofs.YtmagppkclnebjaaGreatDoor
