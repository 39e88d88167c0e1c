/- The reference: Parse. -/
import Derived.Test.YtmagppkclnebjaaGreatDoorO2
import Derived.Test.YtmagppkclnebjaaGreatDoorO4
import Derived.Test.YtmagppkclnebjaaGreatDoorZ4
import Derived.Test.YtmagppkclnebjaaGreatDoorO3
import Derived.Laws.AppendOwnNone
import Derived.Deep.Cut
import Derived.Deep.CutRange
set_option linter.unusedVariables false
set_option linter.unusedSimpArgs false
set_option linter.unusedSimpArgs false
set_option linter.unusedVariables false
namespace Go.Proofs.YtmagppkclnebjaaGreatDoor
open Go.RowKit
open L

theorem z36_zero : z36 = Tms.zero.cells.toArray := rfl
theorem split10 (s : Str) (hs : s.size ≤ 100000) (w : World) :
 Calls Tryz.prog 87 #[.string s, .int .u8 10] w fun x w' => (∃ B d, x = .returned (.slice B (piecesS 10 s).length d) ∧ Rd w' B ((piecesS 10 s).map .string) ∧ ∀ a, B = some a → w.heap.size ≤ a.block) ∧ Below w.heap.size w w' := refSplit_any s hs 10 w
theorem split32 (s : Str) (hs : s.size ≤ 100000) (w : World) :
 Calls Tryz.prog 87 #[.string s, .int .u8 32] w fun x w' => (∃ B d, x = .returned (.slice B (piecesS 32 s).length d) ∧ Rd w' B ((piecesS 32 s).map .string) ∧ ∀ a, B = some a → w.heap.size ≤ a.block) ∧ Below w.heap.size w w' := refSplit_any s hs 32 w
theorem rd_cell {W : World} {B : Option Addr} {ps : List Str} (h : Rd W B (ps.map .string)) (h0 : ps ≠ []) : ∃ b off, B = some ⟨b, off, none⟩ ∧ ∀ k, k < ps.length → W.cell? ⟨b, off + k, none⟩ = some (.string (ps.getD k .empty)) := by
 rcases h with h | ⟨b, off, rfl, hc⟩
 ·
  exact absurd (List.map_eq_nil_iff.1 h) h0
 ·
  refine ⟨b, off, rfl, fun k hk => ?_⟩
  rw [hc k (by simpa using hk)]
  simp [List.getD, hk]
theorem mem_join_len (c : UInt8) (p : List UInt8) : ∀ (q : List (List UInt8)), p ∈ q → p.length ≤ (Go.Lib.join q [c]).length
 | [], h => by simp at h
 | [x], h => by simp at h; rw [h, Go.Lib.join_one]; exact Nat.le_refl _
 | x :: y :: r, h => by
  rw [join_cc, List.length_append, List.length_append]
  rcases List.mem_cons.1 h with rfl | h
  ·
   omega
  ·
   have := mem_join_len c p (y :: r) h; omega
theorem pieces32 (p : List UInt8) : piecesS 32 (mkS p) = wordsP p := by unfold piecesS wordsP; rw [mkS_data]
theorem wordsP_ne (p : List UInt8) : wordsP p ≠ [] := by
 unfold wordsP
 obtain ⟨h, t, e⟩ := cutC_ne 32 false p
 rw [e]; simp
theorem wAt_size (p : List UInt8) (j : Nat) : (wAt (wordsP p) j).size ≤ p.length := by
 unfold wAt
 rw [List.getD_eq_getElem?_getD]
 by_cases h : j < (wordsP p).length
 ·
  rw [List.getElem?_eq_getElem h]
  have hm : (wordsP p)[j] ∈ wordsP p := List.getElem_mem h
  simp only [Option.getD_some]
  generalize (wordsP p)[j] = x at hm
  unfold wordsP at hm
  obtain ⟨q, hq, rfl⟩ := List.mem_map.1 hm
  have h1 := mem_join_len 32 q _ hq
  rw [join_cutC] at h1
  rw [Go.Lib.size_eq, mkS_data]; exact h1
 ·
  rw [List.getElem?_eq_none (by omega)]; exact Nat.zero_le _
theorem chW_name (k : Nat) (p : List UInt8) : (chW k (wordsP p)).name.size ≤ p.length := by
 unfold chW
 split
 ·
  exact wAt_size p 2
 ·
  exact wAt_size p 4
theorem made_names {t : Tms} {N : Nat} (h : ∀ x ∈ t.l0.b ++ t.l1.b, x.size ≤ N) (c : Chg) (hc : c.name.size ≤ N) : ∀ x ∈ (t.made c).l0.b ++ (t.made c).l1.b, x.size ≤ N := by
 intro x hx
 unfold Tms.made at hx
 split at hx
 ·
  rcases List.mem_append.1 hx with hx | hx
  ·
   rcases List.mem_or_eq_of_mem_set hx with hx | rfl
   ·
    exact h x (List.mem_append_left _ hx)
   ·
    exact hc
  ·
   exact h x (List.mem_append_right _ hx)
 ·
  rcases List.mem_append.1 hx with hx | hx
  ·
   exact h x (List.mem_append_left _ hx)
  ·
   rcases List.mem_or_eq_of_mem_set hx with hx | rfl
   ·
    exact h x (List.mem_append_right _ hx)
   ·
    exact hc
theorem names_small {s : Str} {init : List (List UInt8)} {last : List UInt8} (H : CutS s init last) (N : Nat) (hN : ∀ p ∈ init, p.length ≤ N) : ∀ k, k ≤ init.length → (∀ j (hj : j < init.length), j < k → okW j (wordsP init[j]) = true) →
 (∀ x ∈ (tmsP init k).l0.b ++ (tmsP init k).l1.b, x.size ≤ N) ∧ ∀ d ∈ chgP init k, d.name.size ≤ N
 | 0, _, _ => by
  constructor
  ·
   intro x hx
   have : x = .empty := by
    unfold tmsP at hx
    simp only [List.take_zero, List.map_nil, pT] at hx
    unfold Tms.zero LU.zero at hx
    simp only [List.mem_append, List.mem_replicate] at hx
    rcases hx with h | h <;> exact h.2
   rw [this]; exact Nat.zero_le _
  ·
   intro d hd
   unfold chgP at hd
   simp [pL] at hd
 | k + 1, hk, hall => by
  obtain ⟨h1, h2⟩ := names_small H N hN k (by omega) (fun j hj h => hall j hj (by omega))
  obtain ⟨e1, e2⟩ := tmsP_succ H k (by omega) (hall k (by omega) (by omega))
  have hc : (chW k (wordsP init[k])).name.size ≤ N := Nat.le_trans (chW_name k _) (hN _ (List.getElem_mem _))
  rw [e1, e2]
  constructor
  ·
   split
   ·
    exact made_names h1 _ hc
   ·
    exact h1
  ·
   intro d hd
   rcases List.mem_append.1 hd with hd | hd
   ·
    exact h2 d hd
   ·
    split at hd
    ·
     simp at hd
    ·
     simp only [List.mem_singleton] at hd
     subst hd; exact hc
theorem rdc_cellsP {w : World} {b off : Nat} {l : List Chg} (h : RdC w (some ⟨b, off, none⟩) l) (j : Nat) (v : Value) (hv : (flatC l)[j]? = some v) : w.cell? ((⟨b, off, none⟩ : Addr).add j) = some v := by
 have hj : j < l.length * 5 := by rw [← flatC_len]; exact (List.getElem?_eq_some_iff.1 hv).1
 obtain ⟨b2, off2, e, hc⟩ := h (j / 5) (by omega)
 injection e with e
 injection e with e1 e2
 subst e1; subst e2
 have h1 := hc (j % 5) (by omega)
 have h2 := flatC_at l (j / 5) (j % 5) (by omega) (by omega)
 rw [show j / 5 * 5 + j % 5 = j by omega] at h2
 rw [h2] at hv
 rw [Addr.add_mid, show off + j = off + j / 5 * 5 + j % 5 by omega, h1]
 exact hv
theorem flatC_one5P (l : List Chg) : ∀ v ∈ flatC l, v.oneCell' = true := by
 intro v hv
 obtain ⟨c, _, h⟩ := List.mem_flatMap.1 hv
 simp [L.Chg.val] at h
 rcases h with rfl | rfl | rfl | rfl | rfl <;> rfl
set_option maxHeartbeats 2000000 in
set_option maxRecDepth 100000 in
theorem step_appCP {ops : Array Oper} {o : Oper} {a : Act} {w : World} {K : Act → World → Prop} {Q : Exit → Act → World → Prop} {E : Prop} (hgd : o.guard = none) (s x : Operand)
 (ho : o.op = .call { callee := .builtin .append, args := #[s, x], argTypes := #[47, 47] }) (v : Value) (hs : a.eval s = v)
 (C : Option Addr) (m c : Nat) (S : List Chg) (hx : a.eval x = .slice C m c) (base n : Nat) (xs : List Value) (hown : w.ownsRow base 144 5 v n xs) (hm : S.length = m) (hr : RdC w C S) (hnil : C = none → m = 0 ∧ c = 0) (hn : n + m ≤ 100000) (hbase : base ≤ w.heap.size)
 (h : ∀ v' w', w'.ownsRow base 144 5 v' (n + m) (xs ++ flatC S) → w.grownBy w' v.ownBlock → K (a.put o.dst v') w') :
 if Region.wanted o (yielded ops a.tmps) = true then Oper.wp Tryz.prog o a w K Q else E := by
 have hw : Region.wanted o (yielded ops a.tmps) = true := by simp [Region.wanted, hgd]
 rw [if_pos hw]
 obtain ⟨i0, hi, hz0, hz1, hz2⟩ := info_parts info144
 have key : ∃ v' w', (Builtin.append_ #[47, 47] o.type #[v, .slice C m c]).run Tryz.prog w = .ok v' w' ∧ w'.ownsRow base 144 5 v' (n + m) (xs ++ flatC S) ∧ w.grownBy w' v.ownBlock := by
  cases C with
  | none =>
   obtain ⟨rfl, rfl⟩ := hnil rfl
   have h0 : S = [] := List.eq_nil_of_length_eq_zero hm
   refine ⟨v, w, run_append_owned_none (P := Tryz.prog) (w := w) base 47 o.type 144 i0 5 Tryz.underlying47 hi v n xs hown, by rw [h0]; simpa [flatC] using hown, ⟨rfl, rfl, rfl, Nat.le_refl _, fun _ _ _ => rfl⟩⟩
  | some ad =>
   have hcell : ∀ j u, (flatC S)[j]? = some u → w.cell? (ad.add j) = some u := fun j u hu => by
    have hj : j < S.length * 5 := by rw [← flatC_len]; exact (List.getElem?_eq_some_iff.1 hu).1
    obtain ⟨b, off, e, hc⟩ := hr (j / 5) (by omega)
    injection e with e
    subst e
    exact rdc_cellsP hr j u hu
   obtain ⟨v', w', h1, h2, h3, _⟩ := run_append_own (P := Tryz.prog) (w := w) base 47 o.type 144 i0 (.agg #[.int .i64 0, .int .i64 0, .int .i64 0, .string { data := #[] }, .int .i64 0]) 5 48 Tryz.underlying47 hi hz0 hz1 hz2 rfl (by decide) v n xs hown ad m c (flatC S) (by rw [flatC_len, hm]) hcell (flatC_one5P S) (by unfold maxLen; omega) (by omega) hbase
   exact ⟨v', w', h1, h2, h3⟩
 obtain ⟨v', w', hrun, h2, h3⟩ := key
 unfold Oper.wp execOp
 simp only [ho, resolve, invoke, builtin, Sem.run_bind, Sem.run_pure, Result.andThen_ok, List.map_toArray, List.map_cons, List.map_nil, hs, hx, hrun]
 exact h v' w' h2 h3
theorem own_geP {W : World} {base : Nat} {e : TypeId} {size n : Nat} {v : Value} {xs : List Value} (h : W.ownsRow base e size v n xs) : ∀ q, v.ownBlock = some q → base ≤ q := by
 rcases h.2 with ⟨rfl, _⟩ | ⟨g, cap, cur, rfl, hg, _⟩ <;> intro q e
 ·
  simp [Value.ownBlock] at e
 ·
  have h9 := Option.some.inj (show some g = some q from e)
  omega
theorem rdc_oneXP {X : World} {g : Nat} {e : Chg} (h : Bk X g 144 e.val) : RdC X (some ⟨g, 0, none⟩) [e] := fun k hk => by
 obtain rfl : k = 0 := by simpa using hk
 exact ⟨g, 0, rfl, fun j hj => by simpa using h.cell j⟩
/-- what stands in the worlds of Parse's loop -/
structure PrsQ (w : World) (lim g2 g6 : Nat) (B : Option Addr) (ps : List Str) (T : Tms) (v : Value) (l : List Chg) (X : World) : Prop where
 bel : Below w.heap.size w X
 b2 : Bk X g2 46 z36
 b6 : Bk X g6 46 T.cells.toArray
 rd : Rd X B (ps.map .string)
 own : X.ownsRow lim 144 5 v l.length (flatC l)
 lo : lim ≤ X.heap.size
theorem keep_prsQ (w : World) (lim g2 g6 : Nat) (B : Option Addr) (ps : List Str) (T : Tms) (v : Value) (l : List Chg) : Keep (PrsQ w lim g2 g6 B ps T v l) := fun W W' h hb =>
 ⟨keep_below w _ _ h.bel hb, keep_bk _ _ _ _ _ h.b2 hb, keep_bk _ _ _ _ _ h.b6 hb, keep_rd _ _ _ _ h.rd hb, own_below h.own hb, Nat.le_trans h.lo hb.size⟩

set_option maxHeartbeats 20000000 in
set_option maxRecDepth 100000 in
theorem refParse_any (s : Str) (hs : s.size ≤ 100000) (w : World) :
 Calls Tryz.prog 28 #[.string s] w fun x w' => (∃ v, x = .returned (.tuple #[.agg (parseR s).t.cells.toArray, v, .int .i64 (parseR s).at_, .int .i64 (parseR s).e]) ∧ SlK 5 w' v (parseR s).l.length (flatC (parseR s).l)) ∧ Below w.heap.size w w' := by
 have Gz := tc_of Tms.zero Tms.zero_ok
 have F0 : Hid (Below w.heap.size w (w.alloc (.cells z36 46)) ∧ Bk (w.alloc (.cells z36 46)) w.heap.size 46 z36) := ⟨bt_new w _, Bk.new w 46 _⟩
 by_cases h4 : 4096 < s.size
 ·
  have h4' : (4096 : Int) < (s.size : Int) := by omega
  have hR : parseR s = ⟨.zero, [], 0, 26⟩ := by unfold parseR; rw [if_pos h4]
  have HR := Lib.hid hR; clear hR h4
  go_enter Tryz.func28, Tryz.ntmps28
  go_upto_region 1 with fail
  generalize (w.alloc (.cells #[.string { data := #[] }, .string { data := #[] }, .string { data := #[] }, .string { data := #[] }, .string { data := #[] }, .string { data := #[] }, .string { data := #[] }, .string { data := #[] }, .string { data := #[] }, .int .i64 0, .int .i64 0, .int .i64 0, .int .i64 0, .int .i64 0, .int .i64 0, .int .i64 0, .int .i64 0, .int .i64 0, .string { data := #[] }, .string { data := #[] }, .string { data := #[] }, .string { data := #[] }, .string { data := #[] }, .string { data := #[] }, .string { data := #[] }, .string { data := #[] }, .string { data := #[] }, .int .i64 0, .int .i64 0, .int .i64 0, .int .i64 0, .int .i64 0, .int .i64 0, .int .i64 0, .int .i64 0, .int .i64 0] 46)) = W0 at F0 ⊢
  have Hth := Lib.hid (F0.out.2.there Tms.zero.cells.toArray.size (by rw [Gz.s36]; decide))
  go_wp2_with (first | (refine wp_store_mid 46 (.tmp 2) (.tmp 15) rfl w.heap.size 0 Tms.zero.cells.toArray rfl rfl Hth.out Gz.i46 Gz.one ?_) | (refine wpList_store_mid rfl 46 (.tmp 2) (.tmp 15) rfl w.heap.size 0 Tms.zero.cells.toArray rfl rfl Hth.out Gz.i46 Gz.one ?_))
  refine bodyPost_ret (results_cell3 rfl _ _ w.heap.size 46 Tms.zero.cells.toArray _ rfl (F0.out.2.fill Tms.zero.cells.toArray rfl) Tryz.underlying46 rfl Gz.i46) rfl ?_
  rw [HR.out]
  exact ⟨⟨_, rfl, SlK.nil 5 _⟩, below_sets (Nat.le_refl _) F0.out.1 _ _⟩
 ·
  obtain ⟨init, last, e1, e2, e3⟩ := linesOf_cut s
  have HC : CutS s init last := ⟨e1, e2, e3⟩
  have hps : piecesS 10 s = (init ++ [last]).map mkS := by unfold piecesS; rw [e1]
  have hlen : init.length + 1 ≤ 100001 := by
   have := cutP_len 10 s.data.toList
   rw [e1, List.length_append, List.length_singleton, ← Go.Lib.size_eq] at this
   omega
  have hsz : ∀ k (hk : k < init.length), (mkS init[k]).size ≤ 100000 := fun k hk => by
   have : (init[k]).length ≤ s.data.toList.length := by
    have h1 : Go.Lib.join (cutC 10 false s.data.toList) [10] = s.data.toList := join_cutC 10 _
    have hm : init[k] ∈ cutC 10 false s.data.toList := by rw [e1]; exact List.mem_append_left _ (List.getElem_mem hk)
    rw [← h1]
    exact mem_join_len 10 _ _ hm
   rw [Go.Lib.size_eq, mkS_data]
   rw [← Go.Lib.size_eq] at this
   omega
  clear e1 e2 e3
  have HPs := Lib.hid hps
  have Hs4 := Lib.hid h4
  have Hsz := Lib.hid hsz
  have Hhs := Lib.hid hs
  have h4' : ¬ (4096 : Int) < (s.size : Int) := by omega
  clear hps h4 hsz
  go_enter Tryz.func28, Tryz.ntmps28
  go_upto_region 1 with fail
  generalize (w.alloc (.cells #[.string { data := #[] }, .string { data := #[] }, .string { data := #[] }, .string { data := #[] }, .string { data := #[] }, .string { data := #[] }, .string { data := #[] }, .string { data := #[] }, .string { data := #[] }, .int .i64 0, .int .i64 0, .int .i64 0, .int .i64 0, .int .i64 0, .int .i64 0, .int .i64 0, .int .i64 0, .int .i64 0, .string { data := #[] }, .string { data := #[] }, .string { data := #[] }, .string { data := #[] }, .string { data := #[] }, .string { data := #[] }, .string { data := #[] }, .string { data := #[] }, .string { data := #[] }, .int .i64 0, .int .i64 0, .int .i64 0, .int .i64 0, .int .i64 0, .int .i64 0, .int .i64 0, .int .i64 0, .int .i64 0] 46)) = W0 at F0 ⊢
  go_upto_region 5 with fail
  have F1 : Hid (Below w.heap.size w (W0.alloc (.cells #[.string { data := #[] }, .string { data := #[] }, .string { data := #[] }, .string { data := #[] }, .string { data := #[] }, .string { data := #[] }, .string { data := #[] }, .string { data := #[] }, .string { data := #[] }, .int .i64 0, .int .i64 0, .int .i64 0, .int .i64 0, .int .i64 0, .int .i64 0, .int .i64 0, .int .i64 0, .int .i64 0, .string { data := #[] }, .string { data := #[] }, .string { data := #[] }, .string { data := #[] }, .string { data := #[] }, .string { data := #[] }, .string { data := #[] }, .string { data := #[] }, .string { data := #[] }, .int .i64 0, .int .i64 0, .int .i64 0, .int .i64 0, .int .i64 0, .int .i64 0, .int .i64 0, .int .i64 0, .int .i64 0] 46)) ∧ Bk (W0.alloc (.cells #[.string { data := #[] }, .string { data := #[] }, .string { data := #[] }, .string { data := #[] }, .string { data := #[] }, .string { data := #[] }, .string { data := #[] }, .string { data := #[] }, .string { data := #[] }, .int .i64 0, .int .i64 0, .int .i64 0, .int .i64 0, .int .i64 0, .int .i64 0, .int .i64 0, .int .i64 0, .int .i64 0, .string { data := #[] }, .string { data := #[] }, .string { data := #[] }, .string { data := #[] }, .string { data := #[] }, .string { data := #[] }, .string { data := #[] }, .string { data := #[] }, .string { data := #[] }, .int .i64 0, .int .i64 0, .int .i64 0, .int .i64 0, .int .i64 0, .int .i64 0, .int .i64 0, .int .i64 0, .int .i64 0] 46)) w.heap.size 46 z36 ∧ Bk (W0.alloc (.cells #[.string { data := #[] }, .string { data := #[] }, .string { data := #[] }, .string { data := #[] }, .string { data := #[] }, .string { data := #[] }, .string { data := #[] }, .string { data := #[] }, .string { data := #[] }, .int .i64 0, .int .i64 0, .int .i64 0, .int .i64 0, .int .i64 0, .int .i64 0, .int .i64 0, .int .i64 0, .int .i64 0, .string { data := #[] }, .string { data := #[] }, .string { data := #[] }, .string { data := #[] }, .string { data := #[] }, .string { data := #[] }, .string { data := #[] }, .string { data := #[] }, .string { data := #[] }, .int .i64 0, .int .i64 0, .int .i64 0, .int .i64 0, .int .i64 0, .int .i64 0, .int .i64 0, .int .i64 0, .int .i64 0] 46)) W0.heap.size 46 z36 ∧ w.heap.size < W0.heap.size) := ⟨bt_alloc F0.out.1 _, F0.out.2.alloc _, Bk.new W0 46 _, F0.out.2.lt⟩
  clear F0
  generalize (W0.alloc (.cells #[.string { data := #[] }, .string { data := #[] }, .string { data := #[] }, .string { data := #[] }, .string { data := #[] }, .string { data := #[] }, .string { data := #[] }, .string { data := #[] }, .string { data := #[] }, .int .i64 0, .int .i64 0, .int .i64 0, .int .i64 0, .int .i64 0, .int .i64 0, .int .i64 0, .int .i64 0, .int .i64 0, .string { data := #[] }, .string { data := #[] }, .string { data := #[] }, .string { data := #[] }, .string { data := #[] }, .string { data := #[] }, .string { data := #[] }, .string { data := #[] }, .string { data := #[] }, .int .i64 0, .int .i64 0, .int .i64 0, .int .i64 0, .int .i64 0, .int .i64 0, .int .i64 0, .int .i64 0, .int .i64 0] 46)) = W1 at F1 ⊢
  generalize W0.heap.size = g6 at F1 ⊢
  go_upto_region 6 with (go_at_call 87; refine (split10 s Hhs.out W1).mono ?_; rintro e W2 ⟨⟨B, d8, rfl, hB, hge8⟩, hb2⟩)
  rw [HPs.out] at hB ⊢
  have hm : ((init ++ [last]).map mkS).length = init.length + 1 := by simp
  rw [hm]
  have hQ0 : PrsQ w W2.heap.size w.heap.size g6 B ((init ++ [last]).map mkS) Tms.zero (.slice none 0 0) [] W2 :=
   ⟨bt_trans F1.out.1 hb2, F1.out.2.1.below hb2 F1.out.2.1.lt, F1.out.2.2.1.below hb2 F1.out.2.2.1.lt, hB, World.ownsRow_nil _ _ _ _, Nat.le_refl _⟩
  have hg6 : w.heap.size < g6 ∧ g6 < W2.heap.size := ⟨F1.out.2.2.2, hQ0.b6.lt⟩
  have hgg : g6 < W1.heap.size := F1.out.2.2.1.lt
  clear F1 hb2 hB
  obtain ⟨b8, o8, rfl, hc8⟩ := rd_cell hQ0.rd (by simp)
  have Hb8l : Hid (b8 < W2.heap.size) := Lib.hid (World.block_lt_of_cell? _ _ (hc8 0 (by simp)))
  clear hc8
  generalize W2.heap.size = lim at hQ0 hg6 Hb8l
  have hb8 : g6 < b8 := Nat.lt_of_lt_of_le hgg (hge8 _ rfl)
  have Hb8 := Lib.hid hb8
  clear hge8 hb8 hgg
  obtain ⟨m, hmm⟩ : ∃ m, m = init.length + 1 := ⟨_, rfl⟩
  rw [← hmm]
  have Hmm := Lib.hid hmm
  clear hmm hm
  go_upto_region 7 with fail
  go_loopw [7, 9] (fun v i wr => ∃ k : Nat, k ≤ init.length ∧ i = .int .i64 k ∧ PrsQ w lim w.heap.size g6 (some ⟨b8, o8, none⟩) ((init ++ [last]).map mkS) (tmsP init k) v (chgP init k) wr ∧ ∀ j (hj : j < init.length), j < k → okW j (wordsP init[j]) = true) (fun _ i _ => init.length - (intOf i).toNat)
  case atStart => exact ⟨0, Nat.zero_le _, rfl, hQ0, fun j _ h => by omega⟩
  case round =>
   clear hQ0
   obtain ⟨k, hk, rfl, hq, hall⟩ := hrel
   have Hq := Lib.hid hq; have Hall := Lib.hid hall
   clear hq hall
   have hmm := Hmm.out
   have w1 : IntKind.i64.wrap ((m : Int) - 1) = (m : Int) - 1 := IntWalk.i64_in _ (by omega)
   by_cases hkl : k < init.length
   ·
    have l1 : (k : Int) < (m : Int) - 1 := by omega
    have l2 : (k : Int) < (m : Int) := by omega
    have l3 : (0 : Int) ≤ (k : Int) := by omega
    clear hmm
    have c1 : wr.cell? ⟨b8, o8 + k, none⟩ = some (.string (mkS init[k])) := by
     obtain ⟨b, off, e, hc⟩ := rd_cell Hq.out.rd (by simp)
     injection e with e; injection e with e1 e2
     subst e1; subst e2
     rw [hc k (by simp; omega)]
     rw [List.map_append, List.getD_eq_getElem?_getD, List.getElem?_append_left (by simpa using hkl)]
     simp [hkl]
    have Hp := Lib.hid (Hsz.out k hkl)
    obtain ⟨p, hp⟩ : ∃ p, p = init[k] := ⟨_, rfl⟩
    have Hpe := Lib.hid hp
    rw [← hp] at c1 Hp
    clear hp
    have H87 : Hid (∀ W, Calls Tryz.prog 87 #[.string (mkS p), .int .u8 32] W fun x w' => (∃ B d, x = .returned (.slice B (wordsP p).length d) ∧ Rd w' B ((wordsP p).map .string) ∧ ∀ a, B = some a → W.heap.size ≤ a.block) ∧ Below W.heap.size W w') := fun W => by
     have := split32 (mkS p) Hp.out W
     rw [pieces32] at this; exact this
    go_upto_region 10 with (go_at_call 87; (with_reducible refine (H87.out _).mono ?_); rintro e W3 ⟨⟨B9, d9, rfl, hB9, hge9⟩, hb3⟩)
    have hq3 := keep_prsQ _ _ _ _ _ _ _ _ _ _ _ Hq.out hb3
    obtain ⟨b9, o9, rfl, hc9⟩ := rd_cell hB9 (wordsP_ne p)
    have Hb9 : Hid (g6 < b9) := Nat.lt_of_lt_of_le hg6.2 (Nat.le_trans Hq.out.lo (hge9 _ rfl))
    have Hv9 : Hid (∀ q, u7.ownBlock = some q → q ≠ b9) := fun q e => by have := (Hq.out.own.lt q e).2; have := hge9 _ rfl; simp at this; omega
    have Hvb : Hid (∀ q, u7.ownBlock = some q → lim ≤ q) := own_geP Hq.out.own
    clear hge9
    obtain ⟨ws, hws⟩ : ∃ ws, ws = wordsP p := ⟨_, rfl⟩
    rw [← hws] at hc9 ⊢
    have Hws := Lib.hid hws; have Hc9 := Lib.hid hc9; have Hq3 := Lib.hid hq3
    rw [← hws] at hB9
    have HB9 := Lib.hid hB9
    clear hws hc9 hq3 hB9 hb3 c1 Hq H87
    generalize W3 = W4 at Hc9 Hq3 HB9 ⊢
    obtain ⟨QA, kQA, hQA, oQA, Hcl⟩ : ∃ QA : World → Prop, Keep QA ∧ QA W4 ∧ Hid (∀ X, QA X → PrsQ w lim w.heap.size g6 (some ⟨b8, o8, none⟩) ((init ++ [last]).map mkS) (tmsP init k) u7 (chgP init k) X) ∧ Hid (∀ X, QA X → ∀ j, j < ws.length → X.cell? ⟨b9, o9 + j, none⟩ = some (.string (ws.getD j .empty))) :=
     ⟨fun X => PrsQ w lim w.heap.size g6 (some ⟨b8, o8, none⟩) ((init ++ [last]).map mkS) (tmsP init k) u7 (chgP init k) X ∧ Rd X (some ⟨b9, o9, none⟩) (ws.map .string), keep_and (keep_prsQ _ _ _ _ _ _ _ _ _) (keep_rd _ _), ⟨Hq3.out, HB9.out⟩, fun X h => h.1, fun X h j hj => by
      obtain ⟨b, off, e, hc⟩ := rd_cell h.2 (by intro e; rw [e] at hj; simp at hj)
      injection e with e; injection e with e1 e2
      subst e1; subst e2
      exact hc j hj⟩
    have Hsz3 : Hid (∀ x ∈ ws, x.size ≤ 100000) := fun x hx => by
     rw [Hws.out] at hx
     unfold wordsP at hx
     obtain ⟨q, hq, rfl⟩ := List.mem_map.1 hx
     have h1 := mem_join_len 32 q _ hq
     rw [join_cutC] at h1
     have h2 := Hp.out
     rw [Go.Lib.size_eq, mkS_data] at h2 ⊢
     omega
    clear Hq3 HB9 Hc9 Hp
    by_cases h18 : k < 18
    ·
     have g18 : (k : Int) < 18 := by omega
     go_upto_region 11 with fail
     go_cut [66] from 18 to 157 (fun s66 wr => s66 = .bool (!okW k ws) ∧ QA wr)
     case first =>
      as_aux_lemma =>
       have hQd := kQA _ _ hQA (bt_drew (Below.refl _ W4))
       by_cases hl4 : ws.length = 4
       ·
        have hcl := Hcl.out
        match ws, hl4 with
        | [s0, s1, s2, s3], _ =>
         have hS0 : (W4.drew.cell? ⟨b9, o9, none⟩ = some (.string s0) ∧ W4.drew.cell? ⟨b9, o9 + 1, none⟩ = some (.string s1) ∧ W4.drew.cell? ⟨b9, o9 + 2, none⟩ = some (.string s2) ∧ W4.drew.cell? ⟨b9, o9 + 3, none⟩ = some (.string s3)) ∧ QA W4.drew := ⟨⟨hcl _ hQd 0 (by simp), hcl _ hQd 1 (by simp), hcl _ hQd 2 (by simp), hcl _ hQd 3 (by simp)⟩, hQd⟩
         have q1 : (k : Int).tdiv 9 = ((k / 9 : Nat) : Int) := by rw [Int.tdiv_eq_ediv_of_nonneg (by omega)]; omega
         have q2 : (k : Int).tmod 9 = ((k % 9 : Nat) : Int) := by rw [Int.tmod_eq_emod_of_nonneg (by omega)]; omega
         have hok : okW k [s0, s1, s2, s3] = (decide (s0 = decS ((k / 9 : Nat) : Int)) && decide (s1 = decS (((k % 9 : Nat) : Int) + 1)) && !decide (s2 = .empty) && decide (0 ≤ numR s3.data.toList)) := by unfold okW; rw [if_pos h18]; simp [wAt, nAt]
         have T0 : Hid (∀ W, Calls Tryz.prog 86 #[.int .i64 ((k / 9 : Nat) : Int)] W fun x w' => x = .returned (.string (decS ((k / 9 : Nat) : Int))) ∧ W = w') := fun W => refText_int _ (by omega) (by omega) W
         have T1 : Hid (∀ W, Calls Tryz.prog 86 #[.int .i64 (((k % 9 : Nat) : Int) + 1)] W fun x w' => x = .returned (.string (decS (((k % 9 : Nat) : Int) + 1))) ∧ W = w') := fun W => refText_int _ (by omega) (by omega) W
         have N3 : Hid (∀ W, Calls Tryz.prog 88 #[.string s3] W fun x w' => x = .returned (.int .i64 (numR s3.data.toList)) ∧ W = w') := fun W => refNumber_any s3 (Hsz3.out _ (by simp)) W
         have w3 : IntKind.i64.wrap (((k % 9 : Nat) : Int) + 1) = ((k % 9 : Nat) : Int) + 1 := IntWalk.i64_in _ (by omega)
         have w4 : IntKind.i64.wrap ((k / 9 : Nat) : Int) = ((k / 9 : Nat) : Int) := IntWalk.i64_in _ (by omega)
         generalize decS ((k / 9 : Nat) : Int) = a0 at T0 hok
         generalize decS (((k % 9 : Nat) : Int) + 1) = a1 at T1 hok
         generalize numR s3.data.toList = n3 at N3 hok
         generalize k / 9 = kd at *
         generalize k % 9 = km at *
         clear hcl Hcl Hsz3
         have Hok := Lib.hid hok
         clear hok
         by_cases h0 : s0 = a0
         ·
          have g0 := tl_eq h0
          have f0 : (s0 != a0) = false := by simpa using h0
          by_cases h1 : s1 = a1
          ·
           have g1 := tl_eq h1
           have f1 : (s1 != a1) = false := by simpa using h1
           by_cases h2 : s2 = .empty
           ·
            have E : Hid (okW k [s0, s1, s2, s3] = false) := by show _ = _; rw [Hok.out]; simp [h2]
            have g2 : s2.toList.isEmpty = true := by rw [h2, ByteArray.toList_eq]; rfl
            have f2 : (s2 == { data := #[] }) = true := by rw [h2]; rfl
            clear h0 h1 Hok N3
            refine wp_region_held_drew (S := (fun X => (X.cell? ⟨b9, o9, none⟩ = some (.string s0) ∧ X.cell? ⟨b9, o9 + 1, none⟩ = some (.string s1) ∧ X.cell? ⟨b9, o9 + 2, none⟩ = some (.string s2) ∧ X.cell? ⟨b9, o9 + 3, none⟩ = some (.string s3)) ∧ QA X)) (by kernel_rfl) (hS0) (fun hHeld => ?_)
            refine tkE (i := 0) rfl ?_
            refine tkE (i := 1) rfl ?_
            refine tkE (i := 2) rfl ?_
            refine tkE (i := 3) rfl ?_
            refine tkE (i := 4) rfl ?_
            refine tkE (i := 5) rfl ?_
            refine tkE (i := 6) rfl ?_
            refine tkE (i := 7) rfl ?_
            refine tkE (i := 8) rfl ?_
            refine rdE (i := 9) rfl (fun K hK => ?_)
            go_simp
            (go_at_call 86; (with_reducible refine (T0.out _).mono ?_); rintro e w' ⟨rfl, rfl⟩)
            go_wp2_with fail
            refine onE hK (hHeld) (fun hHeld => ?_)
            clear hK K
            refine tkE (i := 10) rfl ?_
            refine tkE (i := 11) rfl ?_
            refine tkE (i := 12) rfl ?_
            refine tkE (i := 13) rfl ?_
            refine tkE (i := 14) rfl ?_
            refine tkE (i := 15) rfl ?_
            refine tkE (i := 16) rfl ?_
            refine tkE (i := 17) rfl ?_
            refine tkE (i := 18) rfl ?_
            refine rdE (i := 19) rfl (fun K hK => ?_)
            go_simp
            (go_at_call 86; (with_reducible refine (T1.out _).mono ?_); rintro e w' ⟨rfl, rfl⟩)
            go_wp2_with fail
            refine onE hK (hHeld) (fun hHeld => ?_)
            clear hK K
            refine tkE (i := 20) rfl ?_
            refine tkE (i := 21) rfl ?_
            refine tkE (i := 22) rfl ?_
            refine tkE (i := 23) rfl ?_
            refine tkE (i := 24) rfl ?_
            refine tkE (i := 25) rfl ?_
            refine tkE (i := 26) rfl ?_
            refine tkE (i := 27) rfl ?_
            refine tkE (i := 28) rfl ?_
            refine skE (i := 29) rfl ?_
            refine skE (i := 30) rfl ?_
            refine skE (i := 31) rfl ?_
            refine skE (i := 32) rfl ?_
            refine skE (i := 33) rfl ?_
            refine tkE (i := 34) rfl ?_
            refine wpAnyH_done (by kernel_rfl) ?_ _
            go_wp2_with fail
            go_meet
            exact ⟨by rw [E.out]; first | rfl | simp, hHeld.2⟩
           ·
            have g2 : s2.toList.isEmpty = false := by
             cases hh : s2.toList.isEmpty with
             | false => rfl
             | true => rw [List.isEmpty_iff, ByteArray.toList_eq] at hh; exact absurd (str_ext (b := .empty) (by rw [hh]; rfl)) h2
            have f2 : (s2 == { data := #[] }) = false := by simpa using (show ¬ s2 = { data := #[] } from h2)
            by_cases h3 : n3 < 0
            ·
             have E : Hid (okW k [s0, s1, s2, s3] = false) := by show _ = _; rw [Hok.out]; simp; intro _ _ _; omega
             have f3 : decide (n3 < 0) = true := decide_eq_true h3
             clear h0 h1 h2 Hok
             refine wp_region_held_drew (S := (fun X => (X.cell? ⟨b9, o9, none⟩ = some (.string s0) ∧ X.cell? ⟨b9, o9 + 1, none⟩ = some (.string s1) ∧ X.cell? ⟨b9, o9 + 2, none⟩ = some (.string s2) ∧ X.cell? ⟨b9, o9 + 3, none⟩ = some (.string s3)) ∧ QA X)) (by kernel_rfl) (hS0) (fun hHeld => ?_)
             refine tkE (i := 0) rfl ?_
             refine tkE (i := 1) rfl ?_
             refine tkE (i := 2) rfl ?_
             refine tkE (i := 3) rfl ?_
             refine tkE (i := 4) rfl ?_
             refine tkE (i := 5) rfl ?_
             refine tkE (i := 6) rfl ?_
             refine tkE (i := 7) rfl ?_
             refine tkE (i := 8) rfl ?_
             refine rdE (i := 9) rfl (fun K hK => ?_)
             go_simp
             (go_at_call 86; (with_reducible refine (T0.out _).mono ?_); rintro e w' ⟨rfl, rfl⟩)
             go_wp2_with fail
             refine onE hK (hHeld) (fun hHeld => ?_)
             clear hK K
             refine tkE (i := 10) rfl ?_
             refine tkE (i := 11) rfl ?_
             refine tkE (i := 12) rfl ?_
             refine tkE (i := 13) rfl ?_
             refine tkE (i := 14) rfl ?_
             refine tkE (i := 15) rfl ?_
             refine tkE (i := 16) rfl ?_
             refine tkE (i := 17) rfl ?_
             refine tkE (i := 18) rfl ?_
             refine rdE (i := 19) rfl (fun K hK => ?_)
             go_simp
             (go_at_call 86; (with_reducible refine (T1.out _).mono ?_); rintro e w' ⟨rfl, rfl⟩)
             go_wp2_with fail
             refine onE hK (hHeld) (fun hHeld => ?_)
             clear hK K
             refine tkE (i := 20) rfl ?_
             refine tkE (i := 21) rfl ?_
             refine tkE (i := 22) rfl ?_
             refine tkE (i := 23) rfl ?_
             refine tkE (i := 24) rfl ?_
             refine tkE (i := 25) rfl ?_
             refine tkE (i := 26) rfl ?_
             refine tkE (i := 27) rfl ?_
             refine tkE (i := 28) rfl ?_
             refine tkE (i := 29) rfl ?_
             refine tkE (i := 30) rfl ?_
             refine tkE (i := 31) rfl ?_
             refine rdE (i := 32) rfl (fun K hK => ?_)
             go_simp
             (go_at_call 88; (with_reducible refine (N3.out _).mono ?_); rintro e w' ⟨rfl, rfl⟩)
             go_wp2_with fail
             refine onE hK (hHeld) (fun hHeld => ?_)
             clear hK K
             refine tkE (i := 33) rfl ?_
             refine tkE (i := 34) rfl ?_
             refine wpAnyH_done (by kernel_rfl) ?_ _
             go_wp2_with fail
             go_meet
             exact ⟨by rw [E.out]; first | rfl | simp, hHeld.2⟩
            ·
             have E : Hid (okW k [s0, s1, s2, s3] = true) := by show _ = _; rw [Hok.out]; simp [h0, h1, h2]; omega
             have f3 : decide (n3 < 0) = false := decide_eq_false h3
             clear h0 h1 h2 Hok
             refine wp_region_held_drew (S := (fun X => (X.cell? ⟨b9, o9, none⟩ = some (.string s0) ∧ X.cell? ⟨b9, o9 + 1, none⟩ = some (.string s1) ∧ X.cell? ⟨b9, o9 + 2, none⟩ = some (.string s2) ∧ X.cell? ⟨b9, o9 + 3, none⟩ = some (.string s3)) ∧ QA X)) (by kernel_rfl) (hS0) (fun hHeld => ?_)
             refine tkE (i := 0) rfl ?_
             refine tkE (i := 1) rfl ?_
             refine tkE (i := 2) rfl ?_
             refine tkE (i := 3) rfl ?_
             refine tkE (i := 4) rfl ?_
             refine tkE (i := 5) rfl ?_
             refine tkE (i := 6) rfl ?_
             refine tkE (i := 7) rfl ?_
             refine tkE (i := 8) rfl ?_
             refine rdE (i := 9) rfl (fun K hK => ?_)
             go_simp
             (go_at_call 86; (with_reducible refine (T0.out _).mono ?_); rintro e w' ⟨rfl, rfl⟩)
             go_wp2_with fail
             refine onE hK (hHeld) (fun hHeld => ?_)
             clear hK K
             refine tkE (i := 10) rfl ?_
             refine tkE (i := 11) rfl ?_
             refine tkE (i := 12) rfl ?_
             refine tkE (i := 13) rfl ?_
             refine tkE (i := 14) rfl ?_
             refine tkE (i := 15) rfl ?_
             refine tkE (i := 16) rfl ?_
             refine tkE (i := 17) rfl ?_
             refine tkE (i := 18) rfl ?_
             refine rdE (i := 19) rfl (fun K hK => ?_)
             go_simp
             (go_at_call 86; (with_reducible refine (T1.out _).mono ?_); rintro e w' ⟨rfl, rfl⟩)
             go_wp2_with fail
             refine onE hK (hHeld) (fun hHeld => ?_)
             clear hK K
             refine tkE (i := 20) rfl ?_
             refine tkE (i := 21) rfl ?_
             refine tkE (i := 22) rfl ?_
             refine tkE (i := 23) rfl ?_
             refine tkE (i := 24) rfl ?_
             refine tkE (i := 25) rfl ?_
             refine tkE (i := 26) rfl ?_
             refine tkE (i := 27) rfl ?_
             refine tkE (i := 28) rfl ?_
             refine tkE (i := 29) rfl ?_
             refine tkE (i := 30) rfl ?_
             refine tkE (i := 31) rfl ?_
             refine rdE (i := 32) rfl (fun K hK => ?_)
             go_simp
             (go_at_call 88; (with_reducible refine (N3.out _).mono ?_); rintro e w' ⟨rfl, rfl⟩)
             go_wp2_with fail
             refine onE hK (hHeld) (fun hHeld => ?_)
             clear hK K
             refine tkE (i := 33) rfl ?_
             refine tkE (i := 34) rfl ?_
             refine wpAnyH_done (by kernel_rfl) ?_ _
             go_wp2_with fail
             go_meet
             exact ⟨by rw [E.out]; first | rfl | simp, hHeld.2⟩
          ·
           have g1 := tl_ne h1
           have f1 : (s1 != a1) = true := by simpa using h1
           have E : Hid (okW k [s0, s1, s2, s3] = false) := by show _ = _; rw [Hok.out]; simp [h1]
           clear h0 h1 Hok N3
           refine wp_region_held_drew (S := (fun X => (X.cell? ⟨b9, o9, none⟩ = some (.string s0) ∧ X.cell? ⟨b9, o9 + 1, none⟩ = some (.string s1) ∧ X.cell? ⟨b9, o9 + 2, none⟩ = some (.string s2) ∧ X.cell? ⟨b9, o9 + 3, none⟩ = some (.string s3)) ∧ QA X)) (by kernel_rfl) (hS0) (fun hHeld => ?_)
           refine tkE (i := 0) rfl ?_
           refine tkE (i := 1) rfl ?_
           refine tkE (i := 2) rfl ?_
           refine tkE (i := 3) rfl ?_
           refine tkE (i := 4) rfl ?_
           refine tkE (i := 5) rfl ?_
           refine tkE (i := 6) rfl ?_
           refine tkE (i := 7) rfl ?_
           refine tkE (i := 8) rfl ?_
           refine rdE (i := 9) rfl (fun K hK => ?_)
           go_simp
           (go_at_call 86; (with_reducible refine (T0.out _).mono ?_); rintro e w' ⟨rfl, rfl⟩)
           go_wp2_with fail
           refine onE hK (hHeld) (fun hHeld => ?_)
           clear hK K
           refine tkE (i := 10) rfl ?_
           refine tkE (i := 11) rfl ?_
           refine tkE (i := 12) rfl ?_
           refine tkE (i := 13) rfl ?_
           refine tkE (i := 14) rfl ?_
           refine tkE (i := 15) rfl ?_
           refine tkE (i := 16) rfl ?_
           refine tkE (i := 17) rfl ?_
           refine tkE (i := 18) rfl ?_
           refine rdE (i := 19) rfl (fun K hK => ?_)
           go_simp
           (go_at_call 86; (with_reducible refine (T1.out _).mono ?_); rintro e w' ⟨rfl, rfl⟩)
           go_wp2_with fail
           refine onE hK (hHeld) (fun hHeld => ?_)
           clear hK K
           refine tkE (i := 20) rfl ?_
           refine tkE (i := 21) rfl ?_
           refine tkE (i := 22) rfl ?_
           refine skE (i := 23) rfl ?_
           refine skE (i := 24) rfl ?_
           refine skE (i := 25) rfl ?_
           refine skE (i := 26) rfl ?_
           refine tkE (i := 27) rfl ?_
           refine tkE (i := 28) rfl ?_
           refine skE (i := 29) rfl ?_
           refine skE (i := 30) rfl ?_
           refine skE (i := 31) rfl ?_
           refine skE (i := 32) rfl ?_
           refine skE (i := 33) rfl ?_
           refine tkE (i := 34) rfl ?_
           refine wpAnyH_done (by kernel_rfl) ?_ _
           go_wp2_with fail
           go_meet
           exact ⟨by rw [E.out]; first | rfl | simp, hHeld.2⟩
         ·
          have g0 := tl_ne h0
          have f0 : (s0 != a0) = true := by simpa using h0
          have E : Hid (okW k [s0, s1, s2, s3] = false) := by show _ = _; rw [Hok.out]; simp [h0]
          clear h0 Hok T1 N3
          refine wp_region_held_drew (S := (fun X => (X.cell? ⟨b9, o9, none⟩ = some (.string s0) ∧ X.cell? ⟨b9, o9 + 1, none⟩ = some (.string s1) ∧ X.cell? ⟨b9, o9 + 2, none⟩ = some (.string s2) ∧ X.cell? ⟨b9, o9 + 3, none⟩ = some (.string s3)) ∧ QA X)) (by kernel_rfl) (hS0) (fun hHeld => ?_)
          refine tkE (i := 0) rfl ?_
          refine tkE (i := 1) rfl ?_
          refine tkE (i := 2) rfl ?_
          refine tkE (i := 3) rfl ?_
          refine tkE (i := 4) rfl ?_
          refine tkE (i := 5) rfl ?_
          refine tkE (i := 6) rfl ?_
          refine tkE (i := 7) rfl ?_
          refine tkE (i := 8) rfl ?_
          refine rdE (i := 9) rfl (fun K hK => ?_)
          go_simp
          (go_at_call 86; (with_reducible refine (T0.out _).mono ?_); rintro e w' ⟨rfl, rfl⟩)
          go_wp2_with fail
          refine onE hK (hHeld) (fun hHeld => ?_)
          clear hK K
          refine tkE (i := 10) rfl ?_
          refine tkE (i := 11) rfl ?_
          refine tkE (i := 12) rfl ?_
          refine skE (i := 13) rfl ?_
          refine skE (i := 14) rfl ?_
          refine skE (i := 15) rfl ?_
          refine skE (i := 16) rfl ?_
          refine skE (i := 17) rfl ?_
          refine skE (i := 18) rfl ?_
          refine skE (i := 19) rfl ?_
          refine skE (i := 20) rfl ?_
          refine tkE (i := 21) rfl ?_
          refine tkE (i := 22) rfl ?_
          refine skE (i := 23) rfl ?_
          refine skE (i := 24) rfl ?_
          refine skE (i := 25) rfl ?_
          refine skE (i := 26) rfl ?_
          refine tkE (i := 27) rfl ?_
          refine tkE (i := 28) rfl ?_
          refine skE (i := 29) rfl ?_
          refine skE (i := 30) rfl ?_
          refine skE (i := 31) rfl ?_
          refine skE (i := 32) rfl ?_
          refine skE (i := 33) rfl ?_
          refine tkE (i := 34) rfl ?_
          refine wpAnyH_done (by kernel_rfl) ?_ _
          go_wp2_with fail
          go_meet
          exact ⟨by rw [E.out]; first | rfl | simp, hHeld.2⟩
       ·
        have E : Hid (okW k ws = false) := by show _ = _; unfold okW; rw [if_pos h18]; simp [hl4]
        have f4 : ¬ (ws.length : Int) = 4 := by omega
        have f5 : ((ws.length : Int) != 4) = true := by simpa using f4
        have hS0 : (True) ∧ QA W4.drew := ⟨trivial, hQd⟩
        generalize ws.length = wl at *
        refine wp_region_held_drew (S := (fun X => (True) ∧ QA X)) (by kernel_rfl) (hS0) (fun hHeld => ?_)
        refine tkE (i := 0) rfl ?_
        refine tkE (i := 1) rfl ?_
        refine tkE (i := 2) rfl ?_
        refine tkE (i := 3) rfl ?_
        refine skE (i := 4) rfl ?_
        refine skE (i := 5) rfl ?_
        refine skE (i := 6) rfl ?_
        refine skE (i := 7) rfl ?_
        refine skE (i := 8) rfl ?_
        refine skE (i := 9) rfl ?_
        refine skE (i := 10) rfl ?_
        refine tkE (i := 11) rfl ?_
        refine tkE (i := 12) rfl ?_
        refine skE (i := 13) rfl ?_
        refine skE (i := 14) rfl ?_
        refine skE (i := 15) rfl ?_
        refine skE (i := 16) rfl ?_
        refine skE (i := 17) rfl ?_
        refine skE (i := 18) rfl ?_
        refine skE (i := 19) rfl ?_
        refine skE (i := 20) rfl ?_
        refine tkE (i := 21) rfl ?_
        refine tkE (i := 22) rfl ?_
        refine skE (i := 23) rfl ?_
        refine skE (i := 24) rfl ?_
        refine skE (i := 25) rfl ?_
        refine skE (i := 26) rfl ?_
        refine tkE (i := 27) rfl ?_
        refine tkE (i := 28) rfl ?_
        refine skE (i := 29) rfl ?_
        refine skE (i := 30) rfl ?_
        refine skE (i := 31) rfl ?_
        refine skE (i := 32) rfl ?_
        refine skE (i := 33) rfl ?_
        refine tkE (i := 34) rfl ?_
        refine wpAnyH_done (by kernel_rfl) ?_ _
        go_wp2_with fail
        go_meet
        exact ⟨by rw [E.out]; first | rfl | simp, hHeld.2⟩
     case rest =>
     obtain ⟨rfl, hQB⟩ := hcut
     clear hQA
     generalize wc = W5 at hQB ⊢
     cases hok : okW k ws
     ·
      have hbad : Hid (parseR s = ⟨.zero, [], k, 25⟩) := parse_bad HC Hs4.out k hkl (fun j hj => Hall.out j (by omega) hj) (by rw [← Hpe.out, ← Hws.out]; exact hok)
      have hb2 := (oQA.out _ hQB).b2
      have Hbel := Lib.hid (oQA.out _ hQB).bel
      have Hth := Lib.hid (hb2.there Tms.zero.cells.toArray.size (by rw [Gz.s36]; decide))
      clear hok
      go_wp2_with (first | (refine wp_store_mid 46 (.tmp 2) (.tmp 67) rfl w.heap.size 0 Tms.zero.cells.toArray rfl rfl Hth.out Gz.i46 Gz.one ?_) | (refine wpList_store_mid rfl 46 (.tmp 2) (.tmp 67) rfl w.heap.size 0 Tms.zero.cells.toArray rfl rfl Hth.out Gz.i46 Gz.one ?_))
      refine bodyPost_ret (results_cell3 rfl _ _ w.heap.size 46 Tms.zero.cells.toArray _ rfl (hb2.fill Tms.zero.cells.toArray rfl) Tryz.underlying46 rfl Gz.i46) rfl ?_
      rw [hbad.out]
      exact ⟨⟨_, rfl, SlK.nil 5 _⟩, below_sets (Nat.le_refl _) Hbel.out _ _⟩
     ·
      obtain ⟨hst1, hst2⟩ := tmsP_succ HC k hkl (by rw [← Hpe.out, ← Hws.out]; exact hok)
      rw [if_pos h18, ← Hpe.out, ← Hws.out] at hst1
      rw [if_pos h18, List.append_nil] at hst2
      have Hall2 : Hid (∀ j (hj : j < init.length), j < k + 1 → okW j (wordsP init[j]) = true) := fun j hj hlt => by
       by_cases h : j < k
       ·
        exact Hall.out j hj h
       ·
        obtain rfl : j = k := by omega
        rw [← Hpe.out, ← Hws.out]; exact hok
      have hl4 : ws.length = 4 := by
       unfold okW at hok
       rw [if_pos h18] at hok
       simp only [Bool.and_eq_true, decide_eq_true_eq] at hok
       exact hok.1.1.1.1
      have hch : chW k ws = ⟨(k / 9 : Nat), 0, ((k % 9 : Nat) : Int) + 1, wAt ws 2, nAt ws 3⟩ := by unfold chW; rw [if_pos h18]
      rw [hch] at hst1
      have hQd := kQA _ _ hQB (bt_drew (Below.refl _ W5))
      have c2 := Hcl.out _ hQd 2 (by omega)
      have c3 := Hcl.out _ hQd 3 (by omega)
      have N3 : Hid (∀ W, Calls Tryz.prog 88 #[.string (wAt ws 3)] W fun x w' => x = .returned (.int .i64 (nAt ws 3)) ∧ W = w') := fun W => refNumber_any (wAt ws 3) (Hsz3.out _ (by unfold wAt; rw [List.getD_eq_getElem?_getD, List.getElem?_eq_getElem (by omega)]; simp)) W
      have hTok : (tmsP init k).ok := pT_ok _ _ _ Tms.zero_ok
      have hsd : ((k / 9 : Nat) : Int) = 0 ∨ ((k / 9 : Nat) : Int) = 1 := by omega
      have Hmc := Lib.hid (Tms.made_cells (tmsP init k) hTok ⟨(k / 9 : Nat), 0, ((k % 9 : Nat) : Int) + 1, wAt ws 2, nAt ws 3⟩ hsd (k % 9) (by omega) rfl)
      have hcb := Tms.cell_b (tmsP init k) hTok ((k / 9 : Nat) : Int) hsd (k % 9) (by omega)
      have hcp := Tms.cell_p (tmsP init k) hTok ((k / 9 : Nat) : Int) hsd (k % 9) (by omega)
      have Hpq := Lib.hid (oQA.out _ hQd)
      have q1 : (k : Int).tdiv 9 = ((k / 9 : Nat) : Int) := by rw [Int.tdiv_eq_ediv_of_nonneg (by omega)]; omega
      have q2 : (k : Int).tmod 9 = ((k % 9 : Nat) : Int) := by rw [Int.tmod_eq_emod_of_nonneg (by omega)]; omega
      have p1 : ((k / 9 : Nat) : Int) < 2 := by omega
      have p2 : ((k % 9 : Nat) : Int) < 9 := by omega
      have p3 : (0 : Int) ≤ ((k / 9 : Nat) : Int) := by omega
      have p4 : (0 : Int) ≤ ((k % 9 : Nat) : Int) := by omega
      have w3 : IntKind.i64.wrap ((k % 9 : Nat) : Int) = ((k % 9 : Nat) : Int) := IntWalk.i64_in _ (by omega)
      have w4 : IntKind.i64.wrap ((k / 9 : Nat) : Int) = ((k / 9 : Nat) : Int) := IntWalk.i64_in _ (by omega)
      simp only [Int.toNat_natCast] at hcb hcp Hmc
      have l4 : (ws.length : Int) = 4 := by omega
      clear hok hch hsd hl4 hTok hQB
      change W5.drew.cell? ⟨b9, o9 + 2, none⟩ = some (.string (wAt ws 2)) at c2
      change W5.drew.cell? ⟨b9, o9 + 3, none⟩ = some (.string (wAt ws 3)) at c3
      have Hst1 := Lib.hid hst1; have Hst2 := Lib.hid hst2
      clear hst1 hst2
      generalize wAt ws 2 = s2 at *
      generalize wAt ws 3 = s3 at *
      generalize nAt ws 3 = n3 at *
      generalize k / 9 = kd at *
      generalize k % 9 = km at *
      generalize ws.length = wl at *
      go_upto_region 13 with fail
      have y1 : W5.drew.cell? ⟨g6, kd * 18 + km, none⟩ = some (.string (((tmsP init k).get kd).b.getD km .empty)) := by rw [Hpq.out.b6.cell, List.getElem?_toArray]; exact hcb
      have z1 : W5.drew.frozen? ⟨g6, kd * 18 + km, none⟩ = false := Hpq.out.b6.frozen _
      have f1 := Hpq.out.b6.set_ (kd * 18 + km) (.string s2)
      have y2 : (W5.drew.setCell ⟨g6, kd * 18 + km, none⟩ (.string s2)).cell? ⟨g6, kd * 18 + 9 + km, none⟩ = some (.int .i64 (((tmsP init k).get kd).p.getD km 0)) := by
       rw [f1.cell, Array.getElem?_setIfInBounds, if_neg (by omega), List.getElem?_toArray]; exact hcp
      have z2 : (W5.drew.setCell ⟨g6, kd * 18 + km, none⟩ (.string s2)).frozen? ⟨g6, kd * 18 + 9 + km, none⟩ = false := f1.frozen _
      have f2 := f1.set_ (kd * 18 + 9 + km) (.int .i64 n3)
      rw [Hmc.out, ← Hst1.out] at f2
      have hn9 : g6 ≠ b9 := by have := Hb9.out; omega
      have hn8 : g6 ≠ b8 := by have := Hb8.out; omega
      have hS0 : W5.drew.cell? ⟨b9, o9 + 2, none⟩ = some (.string s2) ∧ W5.drew.cell? ⟨b9, o9 + 3, none⟩ = some (.string s3) := ⟨c2, c3⟩
      have F9 : Hid (PrsQ w lim w.heap.size g6 (some ⟨b8, o8, none⟩) ((init ++ [last]).map mkS) (tmsP init (k + 1)) u7 (chgP init (k + 1)) ((W5.drew.setCell ⟨g6, kd * 18 + km, none⟩ (.string s2)).setCell ⟨g6, kd * 18 + 9 + km, none⟩ (.int .i64 n3))) := by
       have hp := Hpq.out
       have hg0 := hg6.1
       refine ⟨(hp.bel.setCell (p := ⟨g6, kd * 18 + km, none⟩) (Nat.le_of_lt hg0) _).setCell (p := ⟨g6, kd * 18 + 9 + km, none⟩) (Nat.le_of_lt hg0) _, (hp.b2.far (p := ⟨g6, kd * 18 + km, none⟩) (Nat.ne_of_lt hg0) _).far (p := ⟨g6, kd * 18 + 9 + km, none⟩) (Nat.ne_of_lt hg0) _, f2, hp.rd.keep (fun b off e o => ?_), ?_, ?_⟩
       ·
        injection e with e; injection e with e1 e2
        subst e1
        exact (World.cell?_setCell_far _ _ _ _ hn8).trans (World.cell?_setCell_far _ _ _ _ hn8)
       ·
        rw [Hst2.out]
        exact own_setsFar (own_setsFar hp.own hg6.2 [.string s2] (kd * 18 + km)) hg6.2 [.int .i64 n3] (kd * 18 + 9 + km)
       ·
        have := (Below.refl 0 W5.drew).setCell (p := ⟨g6, kd * 18 + km, none⟩) (Nat.zero_le _) (.string s2)
        exact Nat.le_trans hp.lo (this.setCell (p := ⟨g6, kd * 18 + 9 + km, none⟩) (Nat.zero_le _) (.int .i64 n3)).size
      clear c2 c3 hcb hcp f1 f2
      refine wp_region_held_drew (S := (fun X => X.cell? ⟨b9, o9 + 2, none⟩ = some (.string s2) ∧ X.cell? ⟨b9, o9 + 3, none⟩ = some (.string s3))) (by kernel_rfl) (hS0) (fun hHeld => ?_)
      clear Hpq
      generalize W5.drew = WD at *
      refine tkE (i := 0) rfl ?_
      refine tkE (i := 1) rfl ?_
      refine tkE (i := 2) rfl ?_
      refine tkE (i := 3) rfl ?_
      refine tkE (i := 4) rfl ?_
      refine tkE (i := 5) rfl ?_
      refine tkE (i := 6) rfl ?_
      refine tkE (i := 7) rfl ?_
      refine tkE (i := 8) rfl ?_
      refine tkE (i := 9) rfl ?_
      refine tkE (i := 10) rfl ?_
      refine tkE (i := 11) rfl ?_
      refine tkE (i := 12) rfl ?_
      refine tkE (i := 13) rfl ?_
      refine tkE (i := 15) rfl ?_
      refine tkE (i := 16) rfl ?_
      refine tkE (i := 17) rfl ?_
      refine tkE (i := 19) rfl ?_
      refine tkE (i := 20) rfl ?_
      refine rdE (i := 14) rfl (fun K hK => ?_)
      go_simp
      (go_at_call 88; (with_reducible refine (N3.out _).mono ?_); rintro e w' ⟨rfl, rfl⟩)
      go_wp2_with fail
      refine onE hK (hHeld) (fun hHeld => ?_)
      clear hK K
      refine rdE (i := 18) rfl (fun K hK => ?_)
      go_simp
      refine onE hK ⟨(World.cell?_setCell_far _ _ _ _ hn9).trans hHeld.1, (World.cell?_setCell_far _ _ _ _ hn9).trans hHeld.2⟩ (fun hHeld => ?_)
      clear hK K
      refine tkE (i := 21) rfl ?_
      refine rdE (i := 22) rfl (fun K hK => ?_)
      go_simp
      refine onE hK ⟨(World.cell?_setCell_far _ _ _ _ hn9).trans hHeld.1, (World.cell?_setCell_far _ _ _ _ hn9).trans hHeld.2⟩ (fun hHeld => ?_)
      clear hK K
      refine wpAnyH_done (by kernel_rfl) ?_ _
      go_wp2_with fail
      go_roundw
      case rel => exact ⟨k + 1, by omega, by go_num, F9.out, Hall2.out⟩
      case measure => simp [intOf]; omega
    ·
     have g18 : ¬ (k : Int) < 18 := by omega
     go_upto_region 14 with fail
     go_cut [132] from 18 to 157 (fun s132 wr => s132 = .bool (!okW k ws) ∧ QA wr)
     case first =>
      as_aux_lemma =>
       by_cases hl6 : ws.length = 6
       ·
        have hcl := Hcl.out
        match ws, hl6 with
        | [s0, s1, s2, s3, s4, s5], _ =>
         have c0 : W4.cell? ⟨b9, o9, none⟩ = some (.string s0) := hcl _ hQA 0 (by simp)
         have c1 : W4.cell? ⟨b9, o9 + 1, none⟩ = some (.string s1) := hcl _ hQA 1 (by simp)
         have c2 : W4.cell? ⟨b9, o9 + 2, none⟩ = some (.string s2) := hcl _ hQA 2 (by simp)
         have c3 : W4.cell? ⟨b9, o9 + 3, none⟩ = some (.string s3) := hcl _ hQA 3 (by simp)
         have c4 : W4.cell? ⟨b9, o9 + 4, none⟩ = some (.string s4) := hcl _ hQA 4 (by simp)
         have c5 : W4.cell? ⟨b9, o9 + 5, none⟩ = some (.string s5) := hcl _ hQA 5 (by simp)
         have hok : okW k [s0, s1, s2, s3, s4, s5] = (decide (s0 = atW) && decide (0 ≤ numR s1.data.toList) && decide (0 ≤ numR s2.data.toList) && decide (0 ≤ numR s3.data.toList) && !decide (s4 = .empty) && decide (0 ≤ numR s5.data.toList)) := by unfold okW; rw [if_neg h18]; simp [wAt, nAt]
         have N1 : Hid (∀ W, Calls Tryz.prog 88 #[.string s1] W fun x w' => x = .returned (.int .i64 (numR s1.data.toList)) ∧ W = w') := fun W => refNumber_any s1 (Hsz3.out _ (by simp)) W
         have N2 : Hid (∀ W, Calls Tryz.prog 88 #[.string s2] W fun x w' => x = .returned (.int .i64 (numR s2.data.toList)) ∧ W = w') := fun W => refNumber_any s2 (Hsz3.out _ (by simp)) W
         have N3 : Hid (∀ W, Calls Tryz.prog 88 #[.string s3] W fun x w' => x = .returned (.int .i64 (numR s3.data.toList)) ∧ W = w') := fun W => refNumber_any s3 (Hsz3.out _ (by simp)) W
         have N5 : Hid (∀ W, Calls Tryz.prog 88 #[.string s5] W fun x w' => x = .returned (.int .i64 (numR s5.data.toList)) ∧ W = w') := fun W => refNumber_any s5 (Hsz3.out _ (by simp)) W
         generalize numR s1.data.toList = n1 at N1 hok
         generalize numR s2.data.toList = n2 at N2 hok
         generalize numR s3.data.toList = n3 at N3 hok
         generalize numR s5.data.toList = n5 at N5 hok
         clear hcl Hcl Hsz3
         have Hok := Lib.hid hok
         clear hok
         by_cases h0 : s0 = atW
         ·
          rw [h0, show atW = ({ data := #[97, 116] } : ByteArray) from rfl] at c0
          by_cases hn1 : n1 < 0
          ·
           have E : Hid (okW k [s0, s1, s2, s3, s4, s5] = false) := by
            have hn : ¬ 0 ≤ n1 := by omega
            show _ = _; rw [Hok.out]; simp [hn]
           have fn1 : decide (n1 < 0) = true := decide_eq_true hn1
           clear Hok
           go_wp2_with (first
            | (go_at_call 88; (with_reducible refine (N1.out _).mono ?_); rintro e w' ⟨rfl, rfl⟩)
            | (go_at_call 88; (with_reducible refine (N2.out _).mono ?_); rintro e w' ⟨rfl, rfl⟩)
            | (go_at_call 88; (with_reducible refine (N3.out _).mono ?_); rintro e w' ⟨rfl, rfl⟩)
            | (go_at_call 88; (with_reducible refine (N5.out _).mono ?_); rintro e w' ⟨rfl, rfl⟩))
           go_meet
           exact ⟨by rw [E.out]; first | rfl | simp, hQA⟩
          ·
           have fn1 : decide (n1 < 0) = false := decide_eq_false hn1
           by_cases hn2 : n2 < 0
           ·
            have E : Hid (okW k [s0, s1, s2, s3, s4, s5] = false) := by
             have hn : ¬ 0 ≤ n2 := by omega
             show _ = _; rw [Hok.out]; simp [hn]
            have fn2 : decide (n2 < 0) = true := decide_eq_true hn2
            clear Hok
            go_wp2_with (first
             | (go_at_call 88; (with_reducible refine (N1.out _).mono ?_); rintro e w' ⟨rfl, rfl⟩)
             | (go_at_call 88; (with_reducible refine (N2.out _).mono ?_); rintro e w' ⟨rfl, rfl⟩)
             | (go_at_call 88; (with_reducible refine (N3.out _).mono ?_); rintro e w' ⟨rfl, rfl⟩)
             | (go_at_call 88; (with_reducible refine (N5.out _).mono ?_); rintro e w' ⟨rfl, rfl⟩))
            go_meet
            exact ⟨by rw [E.out]; first | rfl | simp, hQA⟩
           ·
            have fn2 : decide (n2 < 0) = false := decide_eq_false hn2
            by_cases hn3 : n3 < 0
            ·
             have E : Hid (okW k [s0, s1, s2, s3, s4, s5] = false) := by
              have hn : ¬ 0 ≤ n3 := by omega
              show _ = _; rw [Hok.out]; simp [hn]
             have fn3 : decide (n3 < 0) = true := decide_eq_true hn3
             clear Hok
             go_wp2_with (first
              | (go_at_call 88; (with_reducible refine (N1.out _).mono ?_); rintro e w' ⟨rfl, rfl⟩)
              | (go_at_call 88; (with_reducible refine (N2.out _).mono ?_); rintro e w' ⟨rfl, rfl⟩)
              | (go_at_call 88; (with_reducible refine (N3.out _).mono ?_); rintro e w' ⟨rfl, rfl⟩)
              | (go_at_call 88; (with_reducible refine (N5.out _).mono ?_); rintro e w' ⟨rfl, rfl⟩))
             go_meet
             exact ⟨by rw [E.out]; first | rfl | simp, hQA⟩
            ·
             have fn3 : decide (n3 < 0) = false := decide_eq_false hn3
             by_cases h4 : s4 = .empty
             ·
              have E : Hid (okW k [s0, s1, s2, s3, s4, s5] = false) := by show _ = _; rw [Hok.out]; simp [h4]
              rw [h4, show (ByteArray.empty) = ({ data := #[] } : ByteArray) from rfl] at c4
              clear Hok h0
              go_wp2_with (first
               | (go_at_call 88; (with_reducible refine (N1.out _).mono ?_); rintro e w' ⟨rfl, rfl⟩)
               | (go_at_call 88; (with_reducible refine (N2.out _).mono ?_); rintro e w' ⟨rfl, rfl⟩)
               | (go_at_call 88; (with_reducible refine (N3.out _).mono ?_); rintro e w' ⟨rfl, rfl⟩)
               | (go_at_call 88; (with_reducible refine (N5.out _).mono ?_); rintro e w' ⟨rfl, rfl⟩))
              go_meet
              exact ⟨by rw [E.out]; first | rfl | simp, hQA⟩
             ·
              have g4 : s4.toList.isEmpty = false := by
               cases hh : s4.toList.isEmpty with
               | false => rfl
               | true => rw [List.isEmpty_iff, ByteArray.toList_eq] at hh; exact absurd (str_ext (b := .empty) (by rw [hh]; rfl)) h4
              have f4 : (s4 == { data := #[] }) = false := by simpa using (show ¬ s4 = { data := #[] } from h4)
              by_cases hn5 : n5 < 0
              ·
               have E : Hid (okW k [s0, s1, s2, s3, s4, s5] = false) := by
                have hn : ¬ 0 ≤ n5 := by omega
                show _ = _; rw [Hok.out]; simp [hn]
               have fn5 : decide (n5 < 0) = true := decide_eq_true hn5
               clear Hok
               go_wp2_with (first
                | (go_at_call 88; (with_reducible refine (N1.out _).mono ?_); rintro e w' ⟨rfl, rfl⟩)
                | (go_at_call 88; (with_reducible refine (N2.out _).mono ?_); rintro e w' ⟨rfl, rfl⟩)
                | (go_at_call 88; (with_reducible refine (N3.out _).mono ?_); rintro e w' ⟨rfl, rfl⟩)
                | (go_at_call 88; (with_reducible refine (N5.out _).mono ?_); rintro e w' ⟨rfl, rfl⟩))
               go_meet
               exact ⟨by rw [E.out]; first | rfl | simp, hQA⟩
              ·
               have fn5 : decide (n5 < 0) = false := decide_eq_false hn5
               have E : Hid (okW k [s0, s1, s2, s3, s4, s5] = true) := by
                have e1 : 0 ≤ n1 := by omega
                have e2 : 0 ≤ n2 := by omega
                have e3 : 0 ≤ n3 := by omega
                have e5 : 0 ≤ n5 := by omega
                show _ = _; rw [Hok.out]; simp [e1, e2, e3, e5, h0, h4]
               clear Hok h0 h4
               go_wp2_with (first
                | (go_at_call 88; (with_reducible refine (N1.out _).mono ?_); rintro e w' ⟨rfl, rfl⟩)
                | (go_at_call 88; (with_reducible refine (N2.out _).mono ?_); rintro e w' ⟨rfl, rfl⟩)
                | (go_at_call 88; (with_reducible refine (N3.out _).mono ?_); rintro e w' ⟨rfl, rfl⟩)
                | (go_at_call 88; (with_reducible refine (N5.out _).mono ?_); rintro e w' ⟨rfl, rfl⟩))
               go_meet
               exact ⟨by rw [E.out]; first | rfl | simp, hQA⟩
         ·
          have g0 := tl_ne h0
          have g1 := at_no h0
          have f0 : (s0 != { data := #[97, 116] }) = true := by simpa using (show ¬ s0 = { data := #[97, 116] } from h0)
          have E : Hid (okW k [s0, s1, s2, s3, s4, s5] = false) := by show _ = _; rw [Hok.out]; simp [h0]
          clear h0 Hok
          go_wp2_with (first
           | (go_at_call 88; (with_reducible refine (N1.out _).mono ?_); rintro e w' ⟨rfl, rfl⟩)
           | (go_at_call 88; (with_reducible refine (N2.out _).mono ?_); rintro e w' ⟨rfl, rfl⟩)
           | (go_at_call 88; (with_reducible refine (N3.out _).mono ?_); rintro e w' ⟨rfl, rfl⟩)
           | (go_at_call 88; (with_reducible refine (N5.out _).mono ?_); rintro e w' ⟨rfl, rfl⟩))
          go_meet
          exact ⟨by rw [E.out]; first | rfl | simp, hQA⟩
       ·
        have E : Hid (okW k ws = false) := by show _ = _; unfold okW; rw [if_neg h18]; simp [hl6]
        have f4 : ¬ (ws.length : Int) = 6 := by omega
        have f5 : ((ws.length : Int) != 6) = true := by simpa using f4
        generalize ws.length = wl at *
        go_wp2
        go_meet
        exact ⟨by rw [E.out]; first | rfl | simp, hQA⟩
     case rest =>
     obtain ⟨rfl, hQB⟩ := hcut
     clear hQA
     generalize wc = W5 at hQB ⊢
     cases hok : okW k ws
     ·
      have hbad : Hid (parseR s = ⟨.zero, [], k, 25⟩) := parse_bad HC Hs4.out k hkl (fun j hj => Hall.out j (by omega) hj) (by rw [← Hpe.out, ← Hws.out]; exact hok)
      have hb2 := (oQA.out _ hQB).b2
      have Hbel := Lib.hid (oQA.out _ hQB).bel
      have Hth := Lib.hid (hb2.there Tms.zero.cells.toArray.size (by rw [Gz.s36]; decide))
      clear hok
      go_wp2_with (first | (refine wp_store_mid 46 (.tmp 2) (.tmp 133) rfl w.heap.size 0 Tms.zero.cells.toArray rfl rfl Hth.out Gz.i46 Gz.one ?_) | (refine wpList_store_mid rfl 46 (.tmp 2) (.tmp 133) rfl w.heap.size 0 Tms.zero.cells.toArray rfl rfl Hth.out Gz.i46 Gz.one ?_))
      refine bodyPost_ret (results_cell3 rfl _ _ w.heap.size 46 Tms.zero.cells.toArray _ rfl (hb2.fill Tms.zero.cells.toArray rfl) Tryz.underlying46 rfl Gz.i46) rfl ?_
      rw [hbad.out]
      exact ⟨⟨_, rfl, SlK.nil 5 _⟩, below_sets (Nat.le_refl _) Hbel.out _ _⟩
     ·
      obtain ⟨hst1, hst2⟩ := tmsP_succ HC k hkl (by rw [← Hpe.out, ← Hws.out]; exact hok)
      rw [if_neg h18] at hst1
      rw [if_neg h18, ← Hpe.out, ← Hws.out] at hst2
      have Hall2 : Hid (∀ j (hj : j < init.length), j < k + 1 → okW j (wordsP init[j]) = true) := fun j hj hlt => by
       by_cases h : j < k
       ·
        exact Hall.out j hj h
       ·
        obtain rfl : j = k := by omega
        rw [← Hpe.out, ← Hws.out]; exact hok
      have hl6 : ws.length = 6 := by
       unfold okW at hok
       rw [if_neg h18] at hok
       simp only [Bool.and_eq_true, decide_eq_true_eq] at hok
       exact hok.1.1.1.1.1.1
      have hch : chW k ws = ⟨nAt ws 2, nAt ws 1, nAt ws 3, wAt ws 4, nAt ws 5⟩ := by unfold chW; rw [if_neg h18]
      rw [hch] at hst2
      have hQd := kQA _ _ hQB (bt_drew (Below.refl _ W5))
      have c1 : W5.drew.cell? ⟨b9, o9 + 1, none⟩ = some (.string (wAt ws 1)) := Hcl.out _ hQd 1 (by omega)
      have c2 : W5.drew.cell? ⟨b9, o9 + 2, none⟩ = some (.string (wAt ws 2)) := Hcl.out _ hQd 2 (by omega)
      have c3 : W5.drew.cell? ⟨b9, o9 + 3, none⟩ = some (.string (wAt ws 3)) := Hcl.out _ hQd 3 (by omega)
      have c4 : W5.drew.cell? ⟨b9, o9 + 4, none⟩ = some (.string (wAt ws 4)) := Hcl.out _ hQd 4 (by omega)
      have c5 : W5.drew.cell? ⟨b9, o9 + 5, none⟩ = some (.string (wAt ws 5)) := Hcl.out _ hQd 5 (by omega)
      have hsz : ∀ j, j < 6 → (wAt ws j).size ≤ 100000 := fun j hj => Hsz3.out _ (by unfold wAt; rw [List.getD_eq_getElem?_getD, List.getElem?_eq_getElem (by omega)]; simp)
      have N1 : Hid (∀ W, Calls Tryz.prog 88 #[.string (wAt ws 1)] W fun x w' => x = .returned (.int .i64 (nAt ws 1)) ∧ W = w') := fun W => refNumber_any _ (hsz 1 (by omega)) W
      have N2 : Hid (∀ W, Calls Tryz.prog 88 #[.string (wAt ws 2)] W fun x w' => x = .returned (.int .i64 (nAt ws 2)) ∧ W = w') := fun W => refNumber_any _ (hsz 2 (by omega)) W
      have N3 : Hid (∀ W, Calls Tryz.prog 88 #[.string (wAt ws 3)] W fun x w' => x = .returned (.int .i64 (nAt ws 3)) ∧ W = w') := fun W => refNumber_any _ (hsz 3 (by omega)) W
      have N5 : Hid (∀ W, Calls Tryz.prog 88 #[.string (wAt ws 5)] W fun x w' => x = .returned (.int .i64 (nAt ws 5)) ∧ W = w') := fun W => refNumber_any _ (hsz 5 (by omega)) W
      have Hpq := Lib.hid (oQA.out _ hQd)
      have hlc : (chgP init k).length ≤ 100000 - 1 := by
       unfold chgP
       have := pL_len ((init.take k).map fun p => mkS (p ++ [10])) 0
       rw [List.length_map, List.length_take] at this
       omega
      have l6 : (ws.length : Int) = 6 := by omega
      have Hst1 := Lib.hid hst1; have Hst2 := Lib.hid hst2; have Hlc := Lib.hid hlc
      clear hok hch hl6 hQB hst1 hst2 hsz hlc
      generalize wAt ws 1 = s1 at *
      generalize wAt ws 2 = s2 at *
      generalize wAt ws 3 = s3 at *
      generalize wAt ws 4 = s4 at *
      generalize wAt ws 5 = s5 at *
      generalize nAt ws 1 = n1 at *
      generalize nAt ws 2 = n2 at *
      generalize nAt ws 3 = n3 at *
      generalize nAt ws 5 = n5 at *
      generalize ws.length = wl at *
      go_upto_region 16 with fail
      have hS0 : W5.drew.cell? ⟨b9, o9 + 1, none⟩ = some (.string s1) ∧ W5.drew.cell? ⟨b9, o9 + 2, none⟩ = some (.string s2) ∧ W5.drew.cell? ⟨b9, o9 + 3, none⟩ = some (.string s3) ∧ W5.drew.cell? ⟨b9, o9 + 4, none⟩ = some (.string s4) ∧ W5.drew.cell? ⟨b9, o9 + 5, none⟩ = some (.string s5) := ⟨c1, c2, c3, c4, c5⟩
      clear c1 c2 c3 c4 c5
      have HK : Hid (∀ X Y : World, (∀ i, i = b9 → Y.heap[i]? = X.heap[i]?) → (X.cell? ⟨b9, o9 + 1, none⟩ = some (.string s1) ∧ X.cell? ⟨b9, o9 + 2, none⟩ = some (.string s2) ∧ X.cell? ⟨b9, o9 + 3, none⟩ = some (.string s3) ∧ X.cell? ⟨b9, o9 + 4, none⟩ = some (.string s4) ∧ X.cell? ⟨b9, o9 + 5, none⟩ = some (.string s5)) → (Y.cell? ⟨b9, o9 + 1, none⟩ = some (.string s1) ∧ Y.cell? ⟨b9, o9 + 2, none⟩ = some (.string s2) ∧ Y.cell? ⟨b9, o9 + 3, none⟩ = some (.string s3) ∧ Y.cell? ⟨b9, o9 + 4, none⟩ = some (.string s4) ∧ Y.cell? ⟨b9, o9 + 5, none⟩ = some (.string s5))) := fun X Y h q => by
       have e : ∀ j, Y.cell? ⟨b9, j, none⟩ = X.cell? ⟨b9, j, none⟩ := fun j => World.cell?_of_block (h b9 rfl)
       rw [e, e, e, e, e]; exact q
      have Hlt9 : Hid (b9 < W5.drew.heap.size) := World.block_lt_of_cell? _ ⟨b9, o9 + 1, none⟩ hS0.1
      refine wp_region_held_drew (S := (fun X => X.cell? ⟨b9, o9 + 1, none⟩ = some (.string s1) ∧ X.cell? ⟨b9, o9 + 2, none⟩ = some (.string s2) ∧ X.cell? ⟨b9, o9 + 3, none⟩ = some (.string s3) ∧ X.cell? ⟨b9, o9 + 4, none⟩ = some (.string s4) ∧ X.cell? ⟨b9, o9 + 5, none⟩ = some (.string s5))) (by kernel_rfl) (hS0) (fun hHeld => ?_)
      generalize W5.drew = WD at *
      refine tkE (i := 0) rfl ?_
      refine tkE (i := 1) rfl ?_
      refine tkE (i := 2) rfl ?_
      refine tkE (i := 3) rfl ?_
      refine tkE (i := 5) rfl ?_
      refine tkE (i := 6) rfl ?_
      refine tkE (i := 7) rfl ?_
      refine tkE (i := 9) rfl ?_
      refine tkE (i := 10) rfl ?_
      refine tkE (i := 11) rfl ?_
      refine tkE (i := 13) rfl ?_
      refine tkE (i := 14) rfl ?_
      refine tkE (i := 15) rfl ?_
      refine tkE (i := 16) rfl ?_
      refine tkE (i := 17) rfl ?_
      refine tkE (i := 18) rfl ?_
      refine rdE (i := 4) rfl (fun K hK => ?_)
      go_simp
      (go_at_call 88; (with_reducible refine (N2.out _).mono ?_); rintro e w' ⟨rfl, rfl⟩)
      go_wp2_with fail
      refine onE hK (hHeld) (fun hHeld => ?_)
      clear hK K
      refine rdE (i := 8) rfl (fun K hK => ?_)
      go_simp
      (go_at_call 88; (with_reducible refine (N1.out _).mono ?_); rintro e w' ⟨rfl, rfl⟩)
      go_wp2_with fail
      refine onE hK (hHeld) (fun hHeld => ?_)
      clear hK K
      refine rdE (i := 12) rfl (fun K hK => ?_)
      go_simp
      (go_at_call 88; (with_reducible refine (N3.out _).mono ?_); rintro e w' ⟨rfl, rfl⟩)
      go_wp2_with fail
      refine onE hK (hHeld) (fun hHeld => ?_)
      clear hK K
      refine rdE (i := 19) rfl (fun K hK => ?_)
      go_simp
      (go_at_call 88; (with_reducible refine (N5.out _).mono ?_); rintro e w' ⟨rfl, rfl⟩)
      go_wp2_with fail
      refine onE hK (hHeld) (fun hHeld => ?_)
      clear hK K
      refine tkE (i := 20) rfl ?_
      refine rdE (i := 21) rfl (fun K hK => ?_)
      go_simp
      have hqa := keep_prsQ _ _ _ _ _ _ _ _ _ _ _ Hpq.out (bt_new WD (.cells #[.int .i64 n2, .int .i64 n1, .int .i64 n3, .string s4, .int .i64 n5] 144))
      have hba := Bk.new WD 144 #[.int .i64 n2, .int .i64 n1, .int .i64 n3, .string s4, .int .i64 n5]
      refine onE hK (HK.out _ _ (fun i e => by subst e; exact (bt_new WD (.cells #[.int .i64 n2, .int .i64 n1, .int .i64 n3, .string s4, .int .i64 n5] 144)).block _ Hlt9.out) hHeld) (fun hHeld => ?_)
      clear hK K
      have Hlt10 : Hid (b9 < (WD.alloc (.cells #[.int .i64 n2, .int .i64 n1, .int .i64 n3, .string s4, .int .i64 n5] 144)).heap.size) := by show _ < _; have := Hlt9.out; rw [World.size_alloc]; omega
      generalize (WD.alloc (.cells #[.int .i64 n2, .int .i64 n1, .int .i64 n3, .string s4, .int .i64 n5] 144)) = WX at hqa hba hHeld Hlt10 ⊢
      refine rdE (i := 22) rfl (fun K hK => ?_)
      refine step_appCP rfl _ _ rfl _ rfl (some ⟨WD.heap.size, 0, none⟩) 1 1 [⟨n2, n1, n3, s4, n5⟩] rfl lim (chgP init k).length (flatC (chgP init k)) hqa.own rfl (rdc_oneXP hba) (fun h => by cases h) (by have := Hlc.out; omega) hqa.lo ?_
      intro v7 w7 hown7 hg7
      have F9 : Hid (PrsQ w lim w.heap.size g6 (some ⟨b8, o8, none⟩) ((init ++ [last]).map mkS) (tmsP init (k + 1)) v7 (chgP init (k + 1)) w7) := by
       have hgl := hg6
       have hvb := Hvb.out
       refine ⟨hqa.bel.grown hg7 hqa.bel.size (fun q e => by have := hvb q e; omega), (hg7.block _ hqa.b2.lt (fun e => by have := hvb _ e.symm; omega)).trans hqa.b2, by rw [Hst1.out]; exact (hg7.block _ hqa.b6.lt (fun e => by have := hvb _ e.symm; omega)).trans hqa.b6, ?_, by rw [Hst2.out]; simpa [flatC] using hown7, Nat.le_trans hqa.lo hg7.size⟩
       exact hqa.rd.keep (fun b off e o => by injection e with e; injection e with e1 e2; subst e1; exact World.cell?_of_block (hg7.block b8 (by have := Hb8l.out; have := hqa.lo; omega) (fun e => by have := hvb _ e.symm; have := Hb8l.out; omega)))
      refine onE hK (HK.out _ _ (fun i e => by subst e; exact hg7.block _ Hlt10.out (fun e => Hv9.out _ e.symm rfl)) hHeld) (fun hHeld => ?_)
      clear hK K
      refine tkE (i := 23) rfl ?_
      refine wpAnyH_done (by kernel_rfl) ?_ _
      go_wp2_with fail
      go_roundw
      case rel => exact ⟨k + 1, by omega, by go_num, F9.out, Hall2.out⟩
      case measure => simp [intOf]; omega
   ·
    have ek : k = init.length := by omega
    have Hparse := Lib.hid (parse_good HC Hs4.out (fun j hj => Hall.out j hj (by omega)))
    rw [← ek] at Hparse
    have w2 : IntKind.i64.wrap ((m : Int) - 1) = (k : Int) := by rw [w1]; omega
    have l1 : ¬ (k : Int) < (m : Int) - 1 := by omega
    have l2 : (k : Int) < (m : Int) := by omega
    have l3 : (0 : Int) ≤ (k : Int) := by omega
    have c1 : wr.cell? ⟨b8, o8 + k, none⟩ = some (.string (mkS last)) := by
     obtain ⟨b, off, e, hc⟩ := rd_cell Hq.out.rd (by simp)
     injection e with e; injection e with e1 e2
     subst e1; subst e2
     rw [hc k (by simp; omega), List.map_append, List.getD_eq_getElem?_getD, List.getElem?_append_right (by simp; omega)]
     simp [ek]
    have hb2 := Hq.out.b2
    have Hth := Lib.hid (hb2.there Tms.zero.cells.toArray.size (by rw [Gz.s36]; decide))
    have Hbel := Lib.hid Hq.out.bel
    have Hnm := Lib.hid (names_small HC 100000 (fun p hp => by
     obtain ⟨j, hj, rfl⟩ := List.getElem_of_mem hp
     have := Hsz.out j hj
     rw [Go.Lib.size_eq, mkS_data] at this; exact this) k hk (fun j hj h => Hall.out j hj h))
    have hm19 : (m : Int) = (k : Int) + 1 := by omega
    have Hm19 := Lib.hid hm19
    have hchl : (chgP init k).length ≤ 100000 := by
     unfold chgP
     have := pL_len ((init.take k).map fun p => mkS (p ++ [10])) 0
     rw [List.length_map, List.length_take] at this
     omega
    clear hmm w1 hm19 hkl
    by_cases hlast : last = []
    ·
     have Hp2 := Lib.hid (Hparse.out.2 hlast)
     rw [hlast, show mkS [] = ({ data := #[] } : ByteArray) from rfl] at c1
     by_cases h18 : k < 18
     ·
      have l4 : (m : Int) < 19 := by have := Hm19.out; omega
      have HR : Hid (parseR s = ⟨.zero, [], k, 28⟩) := by show _ = _; rw [Hp2.out, if_pos h18]
      clear ek
      go_wp2_with (first | (refine wp_store_mid 46 (.tmp 2) (.tmp 172) rfl w.heap.size 0 Tms.zero.cells.toArray rfl rfl Hth.out Gz.i46 Gz.one ?_) | (refine wpList_store_mid rfl 46 (.tmp 2) (.tmp 172) rfl w.heap.size 0 Tms.zero.cells.toArray rfl rfl Hth.out Gz.i46 Gz.one ?_))
      refine bodyPost_ret (results_cell3 rfl _ _ w.heap.size 46 Tms.zero.cells.toArray _ rfl (hb2.fill Tms.zero.cells.toArray rfl) Tryz.underlying46 rfl Gz.i46) rfl ?_
      rw [HR.out]
      exact ⟨⟨_, rfl, SlK.nil 5 _⟩, below_sets (Nat.le_refl _) Hbel.out _ _⟩
     ·
      have l4 : ¬ (m : Int) < 19 := by have := Hm19.out; omega
      have hTok : (tmsP init k).ok := pT_ok _ _ _ Tms.zero_ok
      have Gt := tc_of _ hTok
      have H26 : Hid (∀ Av cv, RdC wr Av (chgP init k) → Calls Tryz.prog 26 #[.agg (tmsP init k).cells.toArray, .slice Av (chgP init k).length cv] wr fun x w' => x = .returned (.int .i64 (checkChanges (tmsP init k) (chgP init k))) ∧ Below wr.heap.size wr w') := fun Av cv h =>
       refCheck_any _ hTok _ rfl _ Av _ cv rfl (by omega) (fun x hx => by have := Hnm.out.1 x hx; omega) (fun d hd => by have := Hnm.out.2 d hd; omega) wr h
      have HP := Hp2.out
      rw [if_neg h18] at HP
      have HPr := Lib.hid HP
      clear HP Hp2 Hparse ek h18 hTok hlast
      have hown := Lib.hid Hq.out.own
      obtain ⟨hx1, Av, cv, rfl, hrv⟩ := SlK.of_own hown.out
      have H26b := Lib.hid (H26.out Av cv (RdC.of_slk ⟨hx1, Av, cv, rfl, hrv⟩))
      have hb6 := Hq.out.b6
      have Hlo := Lib.hid Hq.out.lo
      clear H26 hrv hx1 Hq
      generalize tmsP init k = T at *
      generalize chgP init k = lc at *
      generalize hcc : checkChanges T lc = cc at H26b HPr
      clear hcc
      go_upto_region 22 with (first
       | (refine wpList_load_row rfl 46 _ rfl g6 rfl 46 T.cells.toArray (0, 0) _ hb6 Tryz.underlying46 rfl Gt.i46 ?_)
       | (go_at_call 26; (with_reducible refine H26b.out.mono ?_); rintro e W9 ⟨rfl, hb9⟩))
      have hb2 := hb2.below hb9 hb2.lt
      have hb6 := hb6.below hb9 hb6.lt
      have Hbel := Lib.hid (bt_trans Hbel.out hb9)
      have hown9 := Lib.hid (own_below hown.out hb9)
      clear hb9 c1
      by_cases hc : cc = 0
      ·
       have gc : (cc != 0) = false := by simpa using hc
       have HR : Hid (parseR s = ⟨T, lc, 0, 0⟩) := by show _ = _; rw [HPr.out, if_neg (by omega)]
       have Hth := Lib.hid (hb2.there T.cells.toArray.size (by rw [Gt.s36]; decide))
       clear hc HPr
       go_wp2_with (first
        | (refine wpList_load_row rfl 46 _ rfl g6 rfl 46 T.cells.toArray (0, 0) _ hb6 Tryz.underlying46 rfl Gt.i46 ?_)
        | (refine wp_store_mid 46 (.tmp 2) (.tmp 183) rfl w.heap.size 0 T.cells.toArray rfl rfl Hth.out Gt.i46 Gt.one ?_) | (refine wpList_store_mid rfl 46 (.tmp 2) (.tmp 183) rfl w.heap.size 0 T.cells.toArray rfl rfl Hth.out Gt.i46 Gt.one ?_))
       refine bodyPost_ret (results_cell3 rfl _ _ w.heap.size 46 T.cells.toArray _ rfl (hb2.fill T.cells.toArray (by rw [Gt.s36]; rfl)) Tryz.underlying46 rfl Gt.i46) rfl ?_
       rw [HR.out]
       exact ⟨⟨_, rfl, SlK.of_own (own_setsFar hown9.out (by have := hg6; omega) _ _)⟩, below_sets (Nat.le_refl _) Hbel.out _ _⟩
      ·
       have gc : (cc != 0) = true := by simpa using hc
       have HR : Hid (parseR s = ⟨.zero, [], 0, cc⟩) := by show _ = _; rw [HPr.out, if_pos hc]
       have Hth := Lib.hid (hb2.there Tms.zero.cells.toArray.size (by rw [Gz.s36]; decide))
       clear hc HPr
       go_wp2_with (first | (refine wp_store_mid 46 (.tmp 2) (.tmp 181) rfl w.heap.size 0 Tms.zero.cells.toArray rfl rfl Hth.out Gz.i46 Gz.one ?_) | (refine wpList_store_mid rfl 46 (.tmp 2) (.tmp 181) rfl w.heap.size 0 Tms.zero.cells.toArray rfl rfl Hth.out Gz.i46 Gz.one ?_))
       refine bodyPost_ret (results_cell3 rfl _ _ w.heap.size 46 Tms.zero.cells.toArray _ rfl (hb2.fill Tms.zero.cells.toArray rfl) Tryz.underlying46 rfl Gz.i46) rfl ?_
       rw [HR.out]
       exact ⟨⟨_, rfl, SlK.nil 5 _⟩, below_sets (Nat.le_refl _) Hbel.out _ _⟩
    ·
     have HR := Lib.hid (Hparse.out.1 hlast)
     have gl : (mkS last).toList.isEmpty = false := by
      cases hh : (mkS last).toList.isEmpty with
      | false => rfl
      | true => rw [List.isEmpty_iff, ByteArray.toList_eq, mkS_data] at hh; exact absurd hh hlast
     have gn : (mkS last != { data := #[] }) = true := by
      simp
      intro e
      exact hlast (mkS_empty.1 e)
     have gm : ¬ mkS last = { data := #[] } := fun e => hlast (mkS_empty.1 e)
     generalize mkS last = sl at *
     clear ek
     go_wp2_with (first | (refine wp_store_mid 46 (.tmp 2) (.tmp 165) rfl w.heap.size 0 Tms.zero.cells.toArray rfl rfl Hth.out Gz.i46 Gz.one ?_) | (refine wpList_store_mid rfl 46 (.tmp 2) (.tmp 165) rfl w.heap.size 0 Tms.zero.cells.toArray rfl rfl Hth.out Gz.i46 Gz.one ?_))
     refine bodyPost_ret (results_cell3 rfl _ _ w.heap.size 46 Tms.zero.cells.toArray _ rfl (hb2.fill Tms.zero.cells.toArray rfl) Tryz.underlying46 rfl Gz.i46) rfl ?_
     rw [HR.out]
     exact ⟨⟨_, rfl, SlK.nil 5 _⟩, below_sets (Nat.le_refl _) Hbel.out _ _⟩
end Go.Proofs.YtmagppkclnebjaaGreatDoor
