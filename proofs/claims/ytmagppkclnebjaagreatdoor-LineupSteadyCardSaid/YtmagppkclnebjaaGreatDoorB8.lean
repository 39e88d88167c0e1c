/- lineup.Parse: the teams and the changes of a text, or the index of its first line that is wrong. -/
import Derived.Test.YtmagppkclnebjaaGreatDoorB7
set_option linter.unusedVariables false
set_option linter.unusedSimpArgs false
set_option linter.unusedSimpArgs false
namespace Go.Proofs.YtmagppkclnebjaaGreatDoor
open Go.RowKit
open L

theorem info142 : (Tryz.prog.info? 142).map (fun i => (i.zero, i.size, i.bytes)) = some (some (.agg #[.int .i64 0, .int .i64 0, .int .i64 0, .string { data := #[] }, .int .i64 0]), 5, 48) := by kernel_rfl
theorem cutSuffix_same (x : Str) (w : World) (hs : x.size ≤ 100000) :
 Calls Tryz.prog 77 #[.string x, .string { data := #[10] }] w fun e w' => e = .returned (.tuple #[.string (bodyOf x), .bool (wholeOf x)]) ∧ w = w' :=
 (cutSuffix_any x w hs).mono fun _ _ ⟨h1, h2⟩ => ⟨h1, h2.symm⟩
theorem at_yes {a : Str} (h : a = atW) : ByteArray.toList a = [97, 116] := by rw [h, ByteArray.toList_eq]; rfl
theorem at_no {a : Str} (h : a ≠ atW) : ¬ ByteArray.toList a = [97, 116] := fun e => by
 have h2 := tl_ne h
 rw [e, ByteArray.toList_eq] at h2
 revert h2
 decide
theorem PS.start {w W : World} {LK : List Str} {T : Tms} {v : Value} {l : List Chg} (h : PK w W LK T v l) (hE : Env w) (ws : List Str) (b : Bool) (hl : ws.length ≤ 100000) (hs : ∀ s ∈ ws, s.size ≤ 100000) :
 PS w (((W.alloc (.cells (ws.map Value.string).toArray 9)).alloc (.cells #[.slice (some ⟨W.heap.size, 0, none⟩) ws.length ws.length, .bool b] 151)).alloc (.cells #[.int .i64 0, .int .i64 0, .int .i64 0, .string { data := #[] }, .int .i64 0] 142)) LK T v l W.heap.size ws ⟨ws, b⟩ noChg := by
 have k2 := Bk.new (W.alloc (.cells (ws.map Value.string).toArray 9)) 151 #[.slice (some ⟨W.heap.size, 0, none⟩) ws.length ws.length, .bool b]
 rw [World.size_alloc] at k2
 have k3 := Bk.new ((W.alloc (.cells (ws.map Value.string).toArray 9)).alloc (.cells #[.slice (some ⟨W.heap.size, 0, none⟩) ws.length ws.length, .bool b] 151)) 142 #[.int .i64 0, .int .i64 0, .int .i64 0, .string { data := #[] }, .int .i64 0]
 rw [World.size_alloc, World.size_alloc] at k3
 refine ⟨((h.alloc _).alloc _).alloc _, ⟨by omega, ((Bk.new W 9 _).alloc _).alloc _, some ⟨W.heap.size, 0, none⟩, ws.length, k2.alloc _, Nat.le_refl _, .inr ⟨0, rfl, rfl⟩⟩, k3, hE, ?_, fun q hq => (h.own.lt q hq).2, hl, hs⟩
 have := h.lns.lt
 omega
theorem PK.blw {w W W' : World} {LK : List Str} {T : Tms} {v : Value} {l : List Chg} (h : PK w W LK T v l) (hb : Below W.heap.size W W') : PK w W' LK T v l :=
 ⟨bt_trans h.below hb, h.res.below hb h.res.lt, h.tms.below hb h.tms.lt, h.lns.below hb h.lns.lt, own_below h.own hb⟩
theorem grown_sets (g : Nat) : ∀ (vs : List Value) (o : Nat) (W : World), W.grownBy (W.setCells g o vs) (some g)
 | [], _, W => ⟨rfl, rfl, rfl, Nat.le_refl _, fun _ _ _ => rfl⟩
 | v :: r, o, W => grown_trans (grown_set' W ⟨g, o, none⟩ v) (grown_sets g r (o + 1) _)
theorem slk_sets {w W : World} {LK : List Str} {T : Tms} {A : Option Addr} {c : Nat} {l : List Chg} {vs : List Value} (_ : SlK 5 W (.slice A l.length c) l.length (flatC l)) (h : PK w W LK T (.slice A l.length c) l) : SlK 5 (W.setCells w.heap.size 0 vs) (.slice A l.length c) l.length (flatC l) :=
 SlK.of_own (h.own.kept (grown_sets w.heap.size vs 0 W) (.inr (fun e => by have := (h.own.lt _ e).1; omega)))
theorem firstBad_here {ls : List Str} {k : Nat} (hk : k < ls.length) (h0 : firstBad 0 ls = firstBad k (ls.drop k)) (hb : lineBad k (ls.getD k .empty) = true) : parseLs ls = ⟨.zero, [], k, 25⟩ := by
 have : firstBad 0 ls = some k := by rw [h0, firstBad_drop ls k hk, if_pos hb]
 unfold parseLs; rw [this]
theorem firstBad_next {ls : List Str} {k : Nat} (hk : k < ls.length) (h0 : firstBad 0 ls = firstBad k (ls.drop k)) (hb : lineBad k (ls.getD k .empty) = false) : firstBad 0 ls = firstBad (k + 1) (ls.drop (k + 1)) := by
 rw [h0, firstBad_drop ls k hk, if_neg (by rw [hb]; simp)]
theorem lineBad_of {k : Nat} {x : Str} {d : Chg} {ws : List Str} {b : Bool} (h : lineX k x = (d, ⟨ws, b⟩)) : lineBad k x = (b || placeBad k d || decide (0 < ws.length)) := by
 unfold lineBad; rw [h]
theorem PK.made {w W W' : World} {LK : List Str} {T T' : Tms} {v : Value} {l : List Chg} (h : PK w W LK T v l) (hg : W.grownBy W' (some (w.heap.size + 1))) (ht : Bk W' (w.heap.size + 1) 54 T'.cells.toArray) : PK w W' LK T' v l := by
 have h1 := h.below.size
 refine ⟨h.below.grown hg h1 (fun q hq => by have := Option.some.inj hq; omega), (hg.block _ h.res.lt (fun e => by have := Option.some.inj e; omega)).trans h.res, ht, (hg.block _ h.lns.lt (fun e => by have := Option.some.inj e; omega)).trans h.lns, h.own.kept hg (.inr (fun e => by have := (h.own.lt _ e).1; omega))⟩
theorem PK.app {w W W' : World} {LK : List Str} {T : Tms} {v v' : Value} {l : List Chg} (h : PK w W LK T v l) (d : Chg) (o : Obj) (hg : (W.alloc o).grownBy W' v.ownBlock) (hown : W'.ownsRow (w.heap.size + 3) 142 5 v' (l.length + 1) (flatC l ++ d.val.toList)) : PK w W' LK T v' (l ++ [d]) := by
 have h1 := h.below.size
 have hl := fun q e => (h.own.lt q e).1
 have a := h.alloc o
 refine ⟨a.below.grown hg (by simp; omega) (fun q hq => by have := hl q hq; omega), (hg.block _ a.res.lt (fun e => by have := hl _ e.symm; omega)).trans a.res, (hg.block _ a.tms.lt (fun e => by have := hl _ e.symm; omega)).trans a.tms, (hg.block _ a.lns.lt (fun e => by have := hl _ e.symm; omega)).trans a.lns, ?_⟩
 rw [flatC_append, flatC_one, List.length_append]
 exact hown

set_option maxHeartbeats 8000000 in
set_option maxRecDepth 100000 in
theorem parse_any (s : Str) (w : World) (hE : Env w) (hs : s.size ≤ 9000000000000000) :
 Calls Tryz.prog 25 #[.string s] w fun x w' => (∃ v, x = .returned (.tuple #[.agg (parseR s).t.cells.toArray, v, .int .i64 (parseR s).at_, .int .i64 (parseR s).e]) ∧ SlK 5 w' v (parseR s).l.length (flatC (parseR s).l)) ∧ Below w.heap.size w w' := by
 obtain ⟨i0, hi, hz0, hz1, hz2⟩ := info_parts info142
 have Hi2 := Lib.hid (info54s Tms.zero.cells.toArray.size (Tms.size36 _ Tms.zero_ok))
 have Hone := Lib.hid (Tms.oneCell Tms.zero)
 have HE := Lib.hid hE
 have Hsz := Lib.hid (Tms.size36 Tms.zero Tms.zero_ok)
 have F0 : Hid (Below w.heap.size w (w.alloc (.cells #[.string { data := #[] }, .string { data := #[] }, .string { data := #[] }, .string { data := #[] }, .string { data := #[] }, .string { data := #[] }, .string { data := #[] }, .string { data := #[] }, .string { data := #[] }, .int .i64 0, .int .i64 0, .int .i64 0, .int .i64 0, .int .i64 0, .int .i64 0, .int .i64 0, .int .i64 0, .int .i64 0, .string { data := #[] }, .string { data := #[] }, .string { data := #[] }, .string { data := #[] }, .string { data := #[] }, .string { data := #[] }, .string { data := #[] }, .string { data := #[] }, .string { data := #[] }, .int .i64 0, .int .i64 0, .int .i64 0, .int .i64 0, .int .i64 0, .int .i64 0, .int .i64 0, .int .i64 0, .int .i64 0] 54)) ∧ Bk (w.alloc (.cells #[.string { data := #[] }, .string { data := #[] }, .string { data := #[] }, .string { data := #[] }, .string { data := #[] }, .string { data := #[] }, .string { data := #[] }, .string { data := #[] }, .string { data := #[] }, .int .i64 0, .int .i64 0, .int .i64 0, .int .i64 0, .int .i64 0, .int .i64 0, .int .i64 0, .int .i64 0, .int .i64 0, .string { data := #[] }, .string { data := #[] }, .string { data := #[] }, .string { data := #[] }, .string { data := #[] }, .string { data := #[] }, .string { data := #[] }, .string { data := #[] }, .string { data := #[] }, .int .i64 0, .int .i64 0, .int .i64 0, .int .i64 0, .int .i64 0, .int .i64 0, .int .i64 0, .int .i64 0, .int .i64 0] 54)) w.heap.size 54 Tms.zero.cells.toArray) := ⟨bt_new w _, Bk.new w 54 #[.string { data := #[] }, .string { data := #[] }, .string { data := #[] }, .string { data := #[] }, .string { data := #[] }, .string { data := #[] }, .string { data := #[] }, .string { data := #[] }, .string { data := #[] }, .int .i64 0, .int .i64 0, .int .i64 0, .int .i64 0, .int .i64 0, .int .i64 0, .int .i64 0, .int .i64 0, .int .i64 0, .string { data := #[] }, .string { data := #[] }, .string { data := #[] }, .string { data := #[] }, .string { data := #[] }, .string { data := #[] }, .string { data := #[] }, .string { data := #[] }, .string { data := #[] }, .int .i64 0, .int .i64 0, .int .i64 0, .int .i64 0, .int .i64 0, .int .i64 0, .int .i64 0, .int .i64 0, .int .i64 0]⟩
 clear hE
 by_cases h4 : 4096 < s.size
 ·
  have h4' : (4096 : Int) < (s.size : Int) := by omega
  have hR : parseR s = ⟨.zero, [], 0, 26⟩ := by unfold parseR; rw [if_pos h4]
  have HR := Lib.hid hR; clear hR h4
  go_enter Tryz.func25, Tryz.ntmps25
  go_upto_region 1 with fail
  generalize (w.alloc (.cells #[.string { data := #[] }, .string { data := #[] }, .string { data := #[] }, .string { data := #[] }, .string { data := #[] }, .string { data := #[] }, .string { data := #[] }, .string { data := #[] }, .string { data := #[] }, .int .i64 0, .int .i64 0, .int .i64 0, .int .i64 0, .int .i64 0, .int .i64 0, .int .i64 0, .int .i64 0, .int .i64 0, .string { data := #[] }, .string { data := #[] }, .string { data := #[] }, .string { data := #[] }, .string { data := #[] }, .string { data := #[] }, .string { data := #[] }, .string { data := #[] }, .string { data := #[] }, .int .i64 0, .int .i64 0, .int .i64 0, .int .i64 0, .int .i64 0, .int .i64 0, .int .i64 0, .int .i64 0, .int .i64 0] 54)) = W0 at F0 ⊢
  have Hth := Lib.hid (F0.out.2.there Tms.zero.cells.toArray.size (Nat.le_refl _))
  go_wp2_with (first | (refine wp_store_mid 54 (.tmp 2) (.tmp 21) rfl w.heap.size 0 Tms.zero.cells.toArray rfl rfl Hth.out Hi2.out Hone.out ?_) | (refine wpList_store_mid rfl 54 (.tmp 2) (.tmp 21) rfl w.heap.size 0 Tms.zero.cells.toArray rfl rfl Hth.out Hi2.out Hone.out ?_))
  refine bodyPost_ret (results_cell3 rfl _ _ w.heap.size 54 Tms.zero.cells.toArray _ rfl (F0.out.2.fill Tms.zero.cells.toArray rfl) Tryz.underlying54 rfl Hi2.out) rfl ?_
  rw [HR.out]
  exact ⟨⟨_, rfl, SlK.nil 5 _⟩, below_sets (Nat.le_refl _) F0.out.1 _ _⟩
 have hR : parseR s = parseLs (linesOf s) := by unfold parseR; rw [if_neg h4]
 have h4' : (s.size : Int) ≤ 4096 := by omega
 have h4n : s.size ≤ 4096 := by omega
 have Hget := Lib.hid (linesOf_get s)
 have Hls : Hid (∀ k, k < (linesOf s).length → ((linesOf s).getD k .empty).size ≤ 4096) := fun k hk => Nat.le_trans (linesOf_size s k hk) h4n
 have hnl : (linesOf s).length ≤ 4097 := Nat.le_trans (linesOf_len s) (Nat.le_trans (linesK_len s) (by omega))
 have HR := Lib.hid hR
 clear hR h4
 have P0 : Hid (PK w (((w.alloc (.cells #[.string { data := #[] }, .string { data := #[] }, .string { data := #[] }, .string { data := #[] }, .string { data := #[] }, .string { data := #[] }, .string { data := #[] }, .string { data := #[] }, .string { data := #[] }, .int .i64 0, .int .i64 0, .int .i64 0, .int .i64 0, .int .i64 0, .int .i64 0, .int .i64 0, .int .i64 0, .int .i64 0, .string { data := #[] }, .string { data := #[] }, .string { data := #[] }, .string { data := #[] }, .string { data := #[] }, .string { data := #[] }, .string { data := #[] }, .string { data := #[] }, .string { data := #[] }, .int .i64 0, .int .i64 0, .int .i64 0, .int .i64 0, .int .i64 0, .int .i64 0, .int .i64 0, .int .i64 0, .int .i64 0] 54)).alloc (.cells #[.string { data := #[] }, .string { data := #[] }, .string { data := #[] }, .string { data := #[] }, .string { data := #[] }, .string { data := #[] }, .string { data := #[] }, .string { data := #[] }, .string { data := #[] }, .int .i64 0, .int .i64 0, .int .i64 0, .int .i64 0, .int .i64 0, .int .i64 0, .int .i64 0, .int .i64 0, .int .i64 0, .string { data := #[] }, .string { data := #[] }, .string { data := #[] }, .string { data := #[] }, .string { data := #[] }, .string { data := #[] }, .string { data := #[] }, .string { data := #[] }, .string { data := #[] }, .int .i64 0, .int .i64 0, .int .i64 0, .int .i64 0, .int .i64 0, .int .i64 0, .int .i64 0, .int .i64 0, .int .i64 0] 54)).alloc (.cells ((linesK s).map Value.string).toArray 9)) (linesK s) Tms.zero (.slice none 0 0) []) := by
  have k2 := Bk.new (w.alloc (.cells #[.string { data := #[] }, .string { data := #[] }, .string { data := #[] }, .string { data := #[] }, .string { data := #[] }, .string { data := #[] }, .string { data := #[] }, .string { data := #[] }, .string { data := #[] }, .int .i64 0, .int .i64 0, .int .i64 0, .int .i64 0, .int .i64 0, .int .i64 0, .int .i64 0, .int .i64 0, .int .i64 0, .string { data := #[] }, .string { data := #[] }, .string { data := #[] }, .string { data := #[] }, .string { data := #[] }, .string { data := #[] }, .string { data := #[] }, .string { data := #[] }, .string { data := #[] }, .int .i64 0, .int .i64 0, .int .i64 0, .int .i64 0, .int .i64 0, .int .i64 0, .int .i64 0, .int .i64 0, .int .i64 0] 54)) 54 #[.string { data := #[] }, .string { data := #[] }, .string { data := #[] }, .string { data := #[] }, .string { data := #[] }, .string { data := #[] }, .string { data := #[] }, .string { data := #[] }, .string { data := #[] }, .int .i64 0, .int .i64 0, .int .i64 0, .int .i64 0, .int .i64 0, .int .i64 0, .int .i64 0, .int .i64 0, .int .i64 0, .string { data := #[] }, .string { data := #[] }, .string { data := #[] }, .string { data := #[] }, .string { data := #[] }, .string { data := #[] }, .string { data := #[] }, .string { data := #[] }, .string { data := #[] }, .int .i64 0, .int .i64 0, .int .i64 0, .int .i64 0, .int .i64 0, .int .i64 0, .int .i64 0, .int .i64 0, .int .i64 0]
  rw [World.size_alloc] at k2
  have k3 := Bk.new ((w.alloc (.cells #[.string { data := #[] }, .string { data := #[] }, .string { data := #[] }, .string { data := #[] }, .string { data := #[] }, .string { data := #[] }, .string { data := #[] }, .string { data := #[] }, .string { data := #[] }, .int .i64 0, .int .i64 0, .int .i64 0, .int .i64 0, .int .i64 0, .int .i64 0, .int .i64 0, .int .i64 0, .int .i64 0, .string { data := #[] }, .string { data := #[] }, .string { data := #[] }, .string { data := #[] }, .string { data := #[] }, .string { data := #[] }, .string { data := #[] }, .string { data := #[] }, .string { data := #[] }, .int .i64 0, .int .i64 0, .int .i64 0, .int .i64 0, .int .i64 0, .int .i64 0, .int .i64 0, .int .i64 0, .int .i64 0] 54)).alloc (.cells #[.string { data := #[] }, .string { data := #[] }, .string { data := #[] }, .string { data := #[] }, .string { data := #[] }, .string { data := #[] }, .string { data := #[] }, .string { data := #[] }, .string { data := #[] }, .int .i64 0, .int .i64 0, .int .i64 0, .int .i64 0, .int .i64 0, .int .i64 0, .int .i64 0, .int .i64 0, .int .i64 0, .string { data := #[] }, .string { data := #[] }, .string { data := #[] }, .string { data := #[] }, .string { data := #[] }, .string { data := #[] }, .string { data := #[] }, .string { data := #[] }, .string { data := #[] }, .int .i64 0, .int .i64 0, .int .i64 0, .int .i64 0, .int .i64 0, .int .i64 0, .int .i64 0, .int .i64 0, .int .i64 0] 54)) 9 ((linesK s).map Value.string).toArray
  rw [World.size_alloc, World.size_alloc] at k3
  exact ⟨bt_alloc (bt_alloc F0.out.1 _) _, (F0.out.2.alloc _).alloc _, k2.alloc _, k3, World.ownsRow_nil _ _ _ _⟩
 have Hlines : Hid (Calls Tryz.prog 76 #[.string s] ((w.alloc (.cells #[.string { data := #[] }, .string { data := #[] }, .string { data := #[] }, .string { data := #[] }, .string { data := #[] }, .string { data := #[] }, .string { data := #[] }, .string { data := #[] }, .string { data := #[] }, .int .i64 0, .int .i64 0, .int .i64 0, .int .i64 0, .int .i64 0, .int .i64 0, .int .i64 0, .int .i64 0, .int .i64 0, .string { data := #[] }, .string { data := #[] }, .string { data := #[] }, .string { data := #[] }, .string { data := #[] }, .string { data := #[] }, .string { data := #[] }, .string { data := #[] }, .string { data := #[] }, .int .i64 0, .int .i64 0, .int .i64 0, .int .i64 0, .int .i64 0, .int .i64 0, .int .i64 0, .int .i64 0, .int .i64 0] 54)).alloc (.cells #[.string { data := #[] }, .string { data := #[] }, .string { data := #[] }, .string { data := #[] }, .string { data := #[] }, .string { data := #[] }, .string { data := #[] }, .string { data := #[] }, .string { data := #[] }, .int .i64 0, .int .i64 0, .int .i64 0, .int .i64 0, .int .i64 0, .int .i64 0, .int .i64 0, .int .i64 0, .int .i64 0, .string { data := #[] }, .string { data := #[] }, .string { data := #[] }, .string { data := #[] }, .string { data := #[] }, .string { data := #[] }, .string { data := #[] }, .string { data := #[] }, .string { data := #[] }, .int .i64 0, .int .i64 0, .int .i64 0, .int .i64 0, .int .i64 0, .int .i64 0, .int .i64 0, .int .i64 0, .int .i64 0] 54)) fun x w' => (∃ c, x = .returned (.slice (some ⟨w.heap.size + 2, 0, none⟩) (linesOf s).length c)) ∧ w' = (((w.alloc (.cells #[.string { data := #[] }, .string { data := #[] }, .string { data := #[] }, .string { data := #[] }, .string { data := #[] }, .string { data := #[] }, .string { data := #[] }, .string { data := #[] }, .string { data := #[] }, .int .i64 0, .int .i64 0, .int .i64 0, .int .i64 0, .int .i64 0, .int .i64 0, .int .i64 0, .int .i64 0, .int .i64 0, .string { data := #[] }, .string { data := #[] }, .string { data := #[] }, .string { data := #[] }, .string { data := #[] }, .string { data := #[] }, .string { data := #[] }, .string { data := #[] }, .string { data := #[] }, .int .i64 0, .int .i64 0, .int .i64 0, .int .i64 0, .int .i64 0, .int .i64 0, .int .i64 0, .int .i64 0, .int .i64 0] 54)).alloc (.cells #[.string { data := #[] }, .string { data := #[] }, .string { data := #[] }, .string { data := #[] }, .string { data := #[] }, .string { data := #[] }, .string { data := #[] }, .string { data := #[] }, .string { data := #[] }, .int .i64 0, .int .i64 0, .int .i64 0, .int .i64 0, .int .i64 0, .int .i64 0, .int .i64 0, .int .i64 0, .int .i64 0, .string { data := #[] }, .string { data := #[] }, .string { data := #[] }, .string { data := #[] }, .string { data := #[] }, .string { data := #[] }, .string { data := #[] }, .string { data := #[] }, .string { data := #[] }, .int .i64 0, .int .i64 0, .int .i64 0, .int .i64 0, .int .i64 0, .int .i64 0, .int .i64 0, .int .i64 0, .int .i64 0] 54)).alloc (.cells ((linesK s).map Value.string).toArray 9))) := by
  have := lines_any s ((w.alloc (.cells #[.string { data := #[] }, .string { data := #[] }, .string { data := #[] }, .string { data := #[] }, .string { data := #[] }, .string { data := #[] }, .string { data := #[] }, .string { data := #[] }, .string { data := #[] }, .int .i64 0, .int .i64 0, .int .i64 0, .int .i64 0, .int .i64 0, .int .i64 0, .int .i64 0, .int .i64 0, .int .i64 0, .string { data := #[] }, .string { data := #[] }, .string { data := #[] }, .string { data := #[] }, .string { data := #[] }, .string { data := #[] }, .string { data := #[] }, .string { data := #[] }, .string { data := #[] }, .int .i64 0, .int .i64 0, .int .i64 0, .int .i64 0, .int .i64 0, .int .i64 0, .int .i64 0, .int .i64 0, .int .i64 0] 54)).alloc (.cells #[.string { data := #[] }, .string { data := #[] }, .string { data := #[] }, .string { data := #[] }, .string { data := #[] }, .string { data := #[] }, .string { data := #[] }, .string { data := #[] }, .string { data := #[] }, .int .i64 0, .int .i64 0, .int .i64 0, .int .i64 0, .int .i64 0, .int .i64 0, .int .i64 0, .int .i64 0, .int .i64 0, .string { data := #[] }, .string { data := #[] }, .string { data := #[] }, .string { data := #[] }, .string { data := #[] }, .string { data := #[] }, .string { data := #[] }, .string { data := #[] }, .string { data := #[] }, .int .i64 0, .int .i64 0, .int .i64 0, .int .i64 0, .int .i64 0, .int .i64 0, .int .i64 0, .int .i64 0, .int .i64 0] 54)) (env_below HE.out (bt_alloc F0.out.1 _)) (by omega)
  rw [World.size_alloc, World.size_alloc] at this
  exact this
 clear F0
 generalize hLK : linesK s = LK at P0 Hlines Hget
 generalize hls : linesOf s = ls at Hlines Hget Hls hnl HR
 obtain ⟨n, hn⟩ : ∃ n, ls.length = n := ⟨_, rfl⟩
 have Hn := Lib.hid hn
 rw [hn] at Hlines hnl
 clear hLK hls hn
 have h4d : decide ((4096 : Int) < (s.size : Int)) = false := by simpa using h4'
 go_enter Tryz.func25, Tryz.ntmps25
 go_upto_region 5 with fail
 clear h4d
 go_upto_region 6 with (go_at_call 76; refine Hlines.out.mono ?_; rintro e w3 ⟨⟨cL, rfl⟩, rfl⟩)
 generalize (((w.alloc (.cells #[.string { data := #[] }, .string { data := #[] }, .string { data := #[] }, .string { data := #[] }, .string { data := #[] }, .string { data := #[] }, .string { data := #[] }, .string { data := #[] }, .string { data := #[] }, .int .i64 0, .int .i64 0, .int .i64 0, .int .i64 0, .int .i64 0, .int .i64 0, .int .i64 0, .int .i64 0, .int .i64 0, .string { data := #[] }, .string { data := #[] }, .string { data := #[] }, .string { data := #[] }, .string { data := #[] }, .string { data := #[] }, .string { data := #[] }, .string { data := #[] }, .string { data := #[] }, .int .i64 0, .int .i64 0, .int .i64 0, .int .i64 0, .int .i64 0, .int .i64 0, .int .i64 0, .int .i64 0, .int .i64 0] 54)).alloc (.cells #[.string { data := #[] }, .string { data := #[] }, .string { data := #[] }, .string { data := #[] }, .string { data := #[] }, .string { data := #[] }, .string { data := #[] }, .string { data := #[] }, .string { data := #[] }, .int .i64 0, .int .i64 0, .int .i64 0, .int .i64 0, .int .i64 0, .int .i64 0, .int .i64 0, .int .i64 0, .int .i64 0, .string { data := #[] }, .string { data := #[] }, .string { data := #[] }, .string { data := #[] }, .string { data := #[] }, .string { data := #[] }, .string { data := #[] }, .string { data := #[] }, .string { data := #[] }, .int .i64 0, .int .i64 0, .int .i64 0, .int .i64 0, .int .i64 0, .int .i64 0, .int .i64 0, .int .i64 0, .int .i64 0] 54)).alloc (.cells (LK.map Value.string).toArray 9)) = W3 at P0 ⊢
 clear Hlines
 go_upto_region 7 with fail
 go_loopw [7, 26] (fun v i wr => ∃ (k : Nat) (T : Tms) (l : List Chg), k ≤ n ∧ i = .int .i64 k ∧ T.ok ∧ PK w wr LK T v l ∧ T = pT 0 .zero (ls.take k) ∧ l = pL 0 (ls.take k) ∧ firstBad 0 ls = firstBad k (ls.drop k)) (fun _ i _ => n - (intOf i).toNat)
 case atStart => exact ⟨0, _, _, by omega, rfl, Tms.zero_ok, P0.out, rfl, rfl, rfl⟩
 case round =>
  clear P0
  obtain ⟨k, T, l, hk, rfl, hT, hpk, hTe, hle, hfb⟩ := hrel
  have HT := Lib.hid hT; have Hpk := Lib.hid hpk; have HTe := Lib.hid hTe; have Hle := Lib.hid hle; have Hfb := Lib.hid hfb
  have hll : l.length ≤ 4097 := by
   have := pL_len (ls.take k) 0
   rw [← hle, List.length_take] at this; omega
  clear hT hpk hTe hle hfb
  by_cases hkn : k < n
  ·
   have hkl : k < ls.length := by rw [Hn.out]; exact hkn
   have hx4 := Hls.out k hkl
   have hgk := Hget.out k hkl
   have htT := pT_take ls .zero k hkl
   have htL := pL_take ls k hkl
   have hbad : lineBad k (ls.getD k .empty) = true → parseLs ls = ⟨.zero, [], k, 25⟩ := fun h => firstBad_here hkl Hfb.out h
   have hgood : lineBad k (ls.getD k .empty) = false → firstBad 0 ls = firstBad (k + 1) (ls.drop (k + 1)) := fun h => firstBad_next hkl Hfb.out h
   generalize ls.getD k .empty = x at hx4 hgk htT htL hbad hgood
   have cx : wr.cell? ⟨w.heap.size + 2, k, none⟩ = some (.string x) := by rw [Hpk.out.lns.cell, List.getElem?_toArray, List.getElem?_map, hgk]; rfl
   have HtT := Lib.hid htT; have HtL := Lib.hid htL; have Hbad := Lib.hid hbad; have Hgood := Lib.hid hgood
   clear hgk htT htL hbad hgood
   have hbs := bodyOf_size x
   have hwl := wordsOf_len (bodyOf x)
   have hws : Hid (∀ z ∈ wordsOf (bodyOf x), z.size ≤ 100000) := fun z hz => by have := wordsOf_size (bodyOf x) z hz; omega
   have hst := PS.start Hpk.out HE.out (wordsOf (bodyOf x)) (!wholeOf x) (by omega) hws.out
   have HrO : Hid (rdrOf x = ⟨wordsOf (bodyOf x), !wholeOf x⟩) := rfl
   rw [← HrO.out] at hst
   have F := Lib.hid hst
   clear hst hws
   have Hcs := Lib.hid (cutSuffix_same x wr (by omega))
   have Hsw := Lib.hid (splitW_any (bodyOf x) wr (env_below HE.out Hpk.out.below) (by omega))
   have hovl : Hid (∀ q, u7.ownBlock = some q → q < wr.heap.size) := fun q e => (Hpk.out.own.lt q e).2
   clear hbs hwl
   generalize bodyOf x = bx at Hcs Hsw F
   generalize wholeOf x = wh at Hcs F
   go_upto_region 9 with fail
   go_wp2_with fail
   refine Hcs.out.mono ?_
   rintro e w' ⟨rfl, rfl⟩
   go_wp2_with fail
   refine Hsw.out.mono ?_
   rintro e w1 ⟨rfl, rfl⟩
   go_upto_region 13 with fail
   have HP0 : Hid (∃ bw, bw = wr.heap.size) := ⟨_, rfl⟩
   generalize (((wr.alloc (.cells ((wordsOf bx).map Value.string).toArray 9)).alloc (.cells #[.slice (some ⟨wr.heap.size, 0, none⟩) (wordsOf bx).length (wordsOf bx).length, .bool (!wh)] 151)).alloc (.cells #[.int .i64 0, .int .i64 0, .int .i64 0, .string { data := #[] }, .int .i64 0] 142)) = W at F ⊢
   generalize wr.heap.size = bw at F hovl ⊢
   generalize (wordsOf bx).length = wl
   generalize (!wh) = nwh
   clear Hcs Hsw HP0 HrO cx
   generalize hr0 : rdrOf x = r0 at F
   generalize wordsOf bx = ws0 at F
   by_cases h18 : k < 18
   ·
    have h18' : (k : Int) < 18 := by omega
    have h18f : decide ((18 : Int) ≤ (k : Int)) = false := by simpa using h18'
    obtain ⟨a, r1, e1⟩ : ∃ a r, r0.int = (a, r) := ⟨_, _, rfl⟩
    obtain ⟨b, r2, e2⟩ : ∃ a r, r1.int = (a, r) := ⟨_, _, rfl⟩
    obtain ⟨nm, r3, e3⟩ : ∃ a r, r2.word = (a, r) := ⟨_, _, rfl⟩
    obtain ⟨q, r4, e4⟩ : ∃ a r, r3.int = (a, r) := ⟨_, _, rfl⟩
    have HX : Hid (lineX k x = (⟨a, 0, b, nm, q⟩, r4)) := by
     show lineX k x = _
     unfold lineX lineC
     rw [if_neg (by omega), hr0]
     simp only [e1, e2, e3, e4]
    have E1 := Lib.hid e1; have E2 := Lib.hid e2; have E3 := Lib.hid e3; have E4 := Lib.hid e4
    clear e1 e2 e3 e4
    go_upto_region 16 with fail
    go_wp2_with fail
    refine (F.out.int E1.out).mono ?_
    rintro e W1 ⟨rfl, f1⟩
    replace F := Lib.hid f1
    clear f1
    go_wp2_with fail
    refine (F.out.int E2.out).mono ?_
    rintro e W2 ⟨rfl, f1⟩
    have c0 := f1.c.1; have c2 := f1.c.2.2.1; have g0 := f1.fr 0; have g2 := f1.fr 2
    have f2 : PS w ((W2.setCell ⟨bw + 1 + 1, 0, none⟩ (.int .i64 a)).setCell ⟨bw + 1 + 1, 2, none⟩ (.int .i64 b)) LK T u7 l bw ws0 r2 ⟨a, 0, b, .empty, 0⟩ := (f1.setC 0 (.int .i64 a) (d' := ⟨a, 0, 0, .empty, 0⟩) rfl).setC 2 (.int .i64 b) rfl
    replace F := Lib.hid f2
    clear f1 f2
    go_upto_region 17 with fail
    clear c0 c2 g0 g2
    generalize ((W2.setCell ⟨bw + 1 + 1, 0, none⟩ (.int .i64 a)).setCell ⟨bw + 1 + 1, 2, none⟩ (.int .i64 b)) = W3' at F ⊢
    go_wp2_with fail
    refine (F.out.word E3.out).mono ?_
    rintro e W4 ⟨rfl, f1⟩
    have c3 := f1.c.2.2.2.1; have g3 := f1.fr 3
    have f2 : PS w (W4.setCell ⟨bw + 1 + 1, 3, none⟩ (.string nm)) LK T u7 l bw ws0 r3 ⟨a, 0, b, nm, 0⟩ := f1.setC 3 (.string nm) rfl
    replace F := Lib.hid f2
    clear f1 f2
    go_upto_region 18 with fail
    clear c3 g3
    generalize (W4.setCell ⟨bw + 1 + 1, 3, none⟩ (.string nm)) = W5 at F ⊢
    go_wp2_with fail
    refine (F.out.int E4.out).mono ?_
    rintro e W6 ⟨rfl, f1⟩
    have c4 := f1.c.2.2.2.2; have g4 := f1.fr 4
    have f2 : PS w (W6.setCell ⟨bw + 1 + 1, 4, none⟩ (.int .i64 q)) LK T u7 l bw ws0 r4 ⟨a, 0, b, nm, q⟩ := f1.setC 4 (.int .i64 q) rfl
    replace F := Lib.hid f2
    clear f1 f2
    go_upto_region 19 with fail
    clear c4 g4
    generalize (W6.setCell ⟨bw + 1 + 1, 4, none⟩ (.int .i64 q)) = W7 at F ⊢
    clear E1 E2 E3 E4 hr0
    obtain ⟨c0, c1, c2, c3, c4⟩ := F.out.c
    have cb := F.out.bad.1
    obtain ⟨AW, cW, cw⟩ := F.out.words
    obtain ⟨wsl, bd⟩ := r4
    have HB := Lib.hid (lineBad_of HX.out)
    have hwl9 := F.out.len
    simp only [] at c0 c1 c2 c3 c4 cb cw hwl9

    have kq : (k : Int) / 9 = ((k / 9 : Nat) : Int) := by omega
    have kr : (k : Int) % 9 = ((k % 9 : Nat) : Int) := by omega
    have Kq := Lib.hid kq; have Kr := Lib.hid kr
    clear kq kr
    by_cases ha : a = ((k / 9 : Nat) : Int)
    ·
     have ht1 : (a != (k : Int) / 9) = false := by rw [Kq.out]; simpa using ha
     by_cases hb : b = ((k % 9 : Nat) : Int) + 1
     ·
      have ht2 : (b != (k : Int) % 9 + 1) = false := by rw [Kr.out]; simpa using hb
      have Ha := Lib.hid ha; have Hb' := Lib.hid hb
      clear ha hb
      cases bd
      ·
       cases wsl with
       | nil =>
        simp only [List.length_nil] at cw
        have hlb : lineBad k x = false := by
         rw [HB.out]
         unfold placeBad
         simp [Ha.out, Hb'.out]
        have Hlb := Lib.hid hlb; clear hlb
        have hs01 : a = 0 ∨ a = 1 := by have := Ha.out; omega
        have hb19 : 1 ≤ b ∧ b ≤ 9 := by have := Hb'.out; omega
        have Hs01 := Lib.hid hs01; have Hb19 := Lib.hid hb19
        clear hs01 hb19
        go_wp2_with fail
        refine (make_any T HT.out (w.heap.size + 1) ⟨a, 0, b, nm, q⟩ Hs01.out Hb19.out.1 Hb19.out.2 W7 F.out.pk.tms).mono ?_
        rintro e W8 ⟨rfl, hmk, hmg⟩
        have Hpk8 := Lib.hid (F.out.pk.made hmg hmk)
        clear hmk hmg c0 c1 c2 c3 c4 cb cw ht1 ht2
        go_wp2
        go_roundw
        case rel =>
         refine ⟨k + 1, _, l, by omega, by go_num, Tms.made_ok T HT.out _, Hpk8.out, ?_, ?_, Hgood.out Hlb.out⟩
         ·
          rw [HtT.out, if_pos h18, ← HTe.out, HX.out]
         ·
          rw [HtL.out, if_pos h18, List.append_nil, ← Hle.out]
        case measure => simp [intOf]; omega
       | cons z zs =>
        simp only [List.length_cons] at cw hwl9
        have hzl : decide ((0 : Int) < ((zs.length + 1 : Nat) : Int)) = true := decide_eq_true (by omega)
        have Hth := Lib.hid (F.out.pk.res.there Tms.zero.cells.toArray.size (Nat.le_refl _))
        go_upto_region 21 with fail
        go_wp2_with (first | (refine wp_store_mid 54 (.tmp 2) (.tmp 105) rfl w.heap.size 0 Tms.zero.cells.toArray rfl rfl Hth.out Hi2.out Hone.out ?_) | (refine wpList_store_mid rfl 54 (.tmp 2) (.tmp 105) rfl w.heap.size 0 Tms.zero.cells.toArray rfl rfl Hth.out Hi2.out Hone.out ?_))
        refine bodyPost_ret (results_cell3 rfl _ _ w.heap.size 54 Tms.zero.cells.toArray _ rfl (F.out.pk.res.fill Tms.zero.cells.toArray rfl) Tryz.underlying54 rfl Hi2.out) rfl ?_
        have hlb : lineBad k x = true := by rw [HB.out]; simp
        rw [HR.out, Hbad.out hlb]
        exact ⟨⟨_, rfl, SlK.nil 5 _⟩, below_sets (Nat.le_refl _) F.out.pk.below _ _⟩
      ·
       skip
       have Hth := Lib.hid (F.out.pk.res.there Tms.zero.cells.toArray.size (Nat.le_refl _))
       go_upto_region 21 with fail
       go_wp2_with (first | (refine wp_store_mid 54 (.tmp 2) (.tmp 105) rfl w.heap.size 0 Tms.zero.cells.toArray rfl rfl Hth.out Hi2.out Hone.out ?_) | (refine wpList_store_mid rfl 54 (.tmp 2) (.tmp 105) rfl w.heap.size 0 Tms.zero.cells.toArray rfl rfl Hth.out Hi2.out Hone.out ?_))
       refine bodyPost_ret (results_cell3 rfl _ _ w.heap.size 54 Tms.zero.cells.toArray _ rfl (F.out.pk.res.fill Tms.zero.cells.toArray rfl) Tryz.underlying54 rfl Hi2.out) rfl ?_
       have hlb : lineBad k x = true := by rw [HB.out]; simp
       rw [HR.out, Hbad.out hlb]
       exact ⟨⟨_, rfl, SlK.nil 5 _⟩, below_sets (Nat.le_refl _) F.out.pk.below _ _⟩
     ·
      have ht2 : (b != (k : Int) % 9 + 1) = true := by rw [Kr.out]; simpa using hb
      have Hpl : Hid (placeBad k ⟨a, 0, b, nm, q⟩ = true) := by
       show placeBad _ _ = true
       unfold placeBad
       simp [h18]
       omega
      clear ha hb
      cases bd
      ·
       skip
       have Hth := Lib.hid (F.out.pk.res.there Tms.zero.cells.toArray.size (Nat.le_refl _))
       go_upto_region 21 with fail
       go_wp2_with (first | (refine wp_store_mid 54 (.tmp 2) (.tmp 105) rfl w.heap.size 0 Tms.zero.cells.toArray rfl rfl Hth.out Hi2.out Hone.out ?_) | (refine wpList_store_mid rfl 54 (.tmp 2) (.tmp 105) rfl w.heap.size 0 Tms.zero.cells.toArray rfl rfl Hth.out Hi2.out Hone.out ?_))
       refine bodyPost_ret (results_cell3 rfl _ _ w.heap.size 54 Tms.zero.cells.toArray _ rfl (F.out.pk.res.fill Tms.zero.cells.toArray rfl) Tryz.underlying54 rfl Hi2.out) rfl ?_
       have hlb : lineBad k x = true := by rw [HB.out]; rw [Hpl.out]; simp
       rw [HR.out, Hbad.out hlb]
       exact ⟨⟨_, rfl, SlK.nil 5 _⟩, below_sets (Nat.le_refl _) F.out.pk.below _ _⟩
      ·
       skip
       have Hth := Lib.hid (F.out.pk.res.there Tms.zero.cells.toArray.size (Nat.le_refl _))
       go_upto_region 21 with fail
       go_wp2_with (first | (refine wp_store_mid 54 (.tmp 2) (.tmp 105) rfl w.heap.size 0 Tms.zero.cells.toArray rfl rfl Hth.out Hi2.out Hone.out ?_) | (refine wpList_store_mid rfl 54 (.tmp 2) (.tmp 105) rfl w.heap.size 0 Tms.zero.cells.toArray rfl rfl Hth.out Hi2.out Hone.out ?_))
       refine bodyPost_ret (results_cell3 rfl _ _ w.heap.size 54 Tms.zero.cells.toArray _ rfl (F.out.pk.res.fill Tms.zero.cells.toArray rfl) Tryz.underlying54 rfl Hi2.out) rfl ?_
       have hlb : lineBad k x = true := by rw [HB.out]; rw [Hpl.out]; simp
       rw [HR.out, Hbad.out hlb]
       exact ⟨⟨_, rfl, SlK.nil 5 _⟩, below_sets (Nat.le_refl _) F.out.pk.below _ _⟩
    ·
     have ht1 : (a != (k : Int) / 9) = true := by rw [Kq.out]; simpa using ha
     have Hpl : Hid (placeBad k ⟨a, 0, b, nm, q⟩ = true) := by
      show placeBad _ _ = true
      unfold placeBad
      simp [h18]
      omega
     clear ha
     cases bd
     ·
      skip
      have Hth := Lib.hid (F.out.pk.res.there Tms.zero.cells.toArray.size (Nat.le_refl _))
      go_upto_region 21 with fail
      go_wp2_with (first | (refine wp_store_mid 54 (.tmp 2) (.tmp 105) rfl w.heap.size 0 Tms.zero.cells.toArray rfl rfl Hth.out Hi2.out Hone.out ?_) | (refine wpList_store_mid rfl 54 (.tmp 2) (.tmp 105) rfl w.heap.size 0 Tms.zero.cells.toArray rfl rfl Hth.out Hi2.out Hone.out ?_))
      refine bodyPost_ret (results_cell3 rfl _ _ w.heap.size 54 Tms.zero.cells.toArray _ rfl (F.out.pk.res.fill Tms.zero.cells.toArray rfl) Tryz.underlying54 rfl Hi2.out) rfl ?_
      have hlb : lineBad k x = true := by rw [HB.out]; rw [Hpl.out]; simp
      rw [HR.out, Hbad.out hlb]
      exact ⟨⟨_, rfl, SlK.nil 5 _⟩, below_sets (Nat.le_refl _) F.out.pk.below _ _⟩
     ·
      skip
      have Hth := Lib.hid (F.out.pk.res.there Tms.zero.cells.toArray.size (Nat.le_refl _))
      go_upto_region 21 with fail
      go_wp2_with (first | (refine wp_store_mid 54 (.tmp 2) (.tmp 105) rfl w.heap.size 0 Tms.zero.cells.toArray rfl rfl Hth.out Hi2.out Hone.out ?_) | (refine wpList_store_mid rfl 54 (.tmp 2) (.tmp 105) rfl w.heap.size 0 Tms.zero.cells.toArray rfl rfl Hth.out Hi2.out Hone.out ?_))
      refine bodyPost_ret (results_cell3 rfl _ _ w.heap.size 54 Tms.zero.cells.toArray _ rfl (F.out.pk.res.fill Tms.zero.cells.toArray rfl) Tryz.underlying54 rfl Hi2.out) rfl ?_
      have hlb : lineBad k x = true := by rw [HB.out]; rw [Hpl.out]; simp
      rw [HR.out, Hbad.out hlb]
      exact ⟨⟨_, rfl, SlK.nil 5 _⟩, below_sets (Nat.le_refl _) F.out.pk.below _ _⟩
   ·
    have h18' : (18 : Int) ≤ (k : Int) := by omega
    have h18f : decide ((k : Int) < 18) = false := by simpa using h18'
    obtain ⟨wd, ra, ea⟩ : ∃ a r, r0.word = (a, r) := ⟨_, _, rfl⟩
    obtain ⟨p, RB, ep⟩ : ∃ a r, (Rdr.mk ra.ws (!decide (wd = atW) || ra.bad)).int = (a, r) := ⟨_, _, rfl⟩
    have EA := Lib.hid ea; have EP := Lib.hid ep
    clear ea ep
    go_wp2_with fail
    refine (F.out.word EA.out).mono ?_
    rintro e W1 ⟨rfl, f1⟩
    have cb := f1.bad.1; have gb := f1.bad.2
    have f2 : PS w (W1.setCell ⟨bw + 1, 1, none⟩ (.bool (!decide (wd = atW) || ra.bad))) LK T u7 l bw ws0 ⟨ra.ws, !decide (wd = atW) || ra.bad⟩ noChg := f1.setB _
    replace F := Lib.hid f2
    clear f1 f2
    obtain ⟨BB, hBB⟩ : ∃ BB, BB = (!decide (wd = atW) || ra.bad) := ⟨_, rfl⟩
    rw [← hBB] at F EP
    have HBB := Lib.hid hBB
    by_cases hat : wd = atW

    ·
     have t1 := at_yes hat
     obtain rfl : BB = ra.bad := by rw [hBB]; simp [hat]
     have Hat := Lib.hid hat
     clear hat hBB
     go_upto_region 15 with fail
     clear t1 cb gb
     generalize (W1.setCell ⟨bw + 1, 1, none⟩ (.bool (ra.bad))) = W1' at F ⊢

     go_wp2_with fail
     refine (F.out.int EP.out).mono ?_
     rintro e W2p ⟨rfl, f1⟩
     have c1 := f1.c.2.1; have g1 := f1.fr 1
     have f2 : PS w (W2p.setCell ⟨bw + 1 + 1, 1, none⟩ (.int .i64 p)) LK T u7 l bw ws0 RB ⟨0, p, 0, .empty, 0⟩ := f1.setC 1 (.int .i64 p) rfl
     replace F := Lib.hid f2
     clear f1 f2
     go_upto_region 16 with fail
     clear c1 g1
     generalize (W2p.setCell ⟨bw + 1 + 1, 1, none⟩ (.int .i64 p)) = W3p at F ⊢
     obtain ⟨a, r1, e1⟩ : ∃ a r, RB.int = (a, r) := ⟨_, _, rfl⟩
     obtain ⟨b, r2, e2⟩ : ∃ a r, r1.int = (a, r) := ⟨_, _, rfl⟩
     obtain ⟨nm, r3, e3⟩ : ∃ a r, r2.word = (a, r) := ⟨_, _, rfl⟩
     obtain ⟨q, r4, e4⟩ : ∃ a r, r3.int = (a, r) := ⟨_, _, rfl⟩
     have HX : Hid (lineX k x = (⟨a, p, b, nm, q⟩, r4)) := by
      show lineX k x = _
      unfold lineX lineC
      rw [if_pos (by omega), hr0]
      unfold Rdr.at_
      have E5 := EP.out
      rw [HBB.out] at E5
      simp only [EA.out, E5, e1, e2, e3, e4]
     have E1 := Lib.hid e1; have E2 := Lib.hid e2; have E3 := Lib.hid e3; have E4 := Lib.hid e4
     clear e1 e2 e3 e4
     go_wp2_with fail
     refine (F.out.int E1.out).mono ?_
     rintro e W1 ⟨rfl, f1⟩
     replace F := Lib.hid f1
     clear f1
     go_wp2_with fail
     refine (F.out.int E2.out).mono ?_
     rintro e W2 ⟨rfl, f1⟩
     have c0 := f1.c.1; have c2 := f1.c.2.2.1; have g0 := f1.fr 0; have g2 := f1.fr 2
     have f2 : PS w ((W2.setCell ⟨bw + 1 + 1, 0, none⟩ (.int .i64 a)).setCell ⟨bw + 1 + 1, 2, none⟩ (.int .i64 b)) LK T u7 l bw ws0 r2 ⟨a, p, b, .empty, 0⟩ := (f1.setC 0 (.int .i64 a) (d' := ⟨a, p, 0, .empty, 0⟩) rfl).setC 2 (.int .i64 b) rfl
     replace F := Lib.hid f2
     clear f1 f2
     go_upto_region 17 with fail
     clear c0 c2 g0 g2
     generalize ((W2.setCell ⟨bw + 1 + 1, 0, none⟩ (.int .i64 a)).setCell ⟨bw + 1 + 1, 2, none⟩ (.int .i64 b)) = W3' at F ⊢
     go_wp2_with fail
     refine (F.out.word E3.out).mono ?_
     rintro e W4 ⟨rfl, f1⟩
     have c3 := f1.c.2.2.2.1; have g3 := f1.fr 3
     have f2 : PS w (W4.setCell ⟨bw + 1 + 1, 3, none⟩ (.string nm)) LK T u7 l bw ws0 r3 ⟨a, p, b, nm, 0⟩ := f1.setC 3 (.string nm) rfl
     replace F := Lib.hid f2
     clear f1 f2
     go_upto_region 18 with fail
     clear c3 g3
     generalize (W4.setCell ⟨bw + 1 + 1, 3, none⟩ (.string nm)) = W5 at F ⊢
     go_wp2_with fail
     refine (F.out.int E4.out).mono ?_
     rintro e W6 ⟨rfl, f1⟩
     have c4 := f1.c.2.2.2.2; have g4 := f1.fr 4
     have f2 : PS w (W6.setCell ⟨bw + 1 + 1, 4, none⟩ (.int .i64 q)) LK T u7 l bw ws0 r4 ⟨a, p, b, nm, q⟩ := f1.setC 4 (.int .i64 q) rfl
     replace F := Lib.hid f2
     clear f1 f2
     go_upto_region 19 with fail
     clear c4 g4
     generalize (W6.setCell ⟨bw + 1 + 1, 4, none⟩ (.int .i64 q)) = W7 at F ⊢
     clear E1 E2 E3 E4 hr0
     obtain ⟨c0, c1, c2, c3, c4⟩ := F.out.c
     have cb := F.out.bad.1
     obtain ⟨AW, cW, cw⟩ := F.out.words
     obtain ⟨wsl, bd⟩ := r4
     have HB := Lib.hid (lineBad_of HX.out)
     have hwl9 := F.out.len
     simp only [] at c0 c1 c2 c3 c4 cb cw hwl9
     cases bd
     ·
      cases wsl with
      | nil =>
       simp only [List.length_nil] at cw
       have hlb : lineBad k x = false := by
        rw [HB.out]
        unfold placeBad
        simp [h18]
       have Hlb := Lib.hid hlb; clear hlb
       have hcs := new_cells W7 #[.int .i64 a, .int .i64 p, .int .i64 b, .string nm, .int .i64 q] 142
       have Hcs := Lib.hid hcs; clear hcs
       have hsz7 := F.out.pk.lns.lt
       go_wp2_with (at_builtin; refine wpList_append_own _ rfl _ _ 56 rfl (w.heap.size + 3) 142 i0 (.agg #[.int .i64 0, .int .i64 0, .int .i64 0, .string { data := #[] }, .int .i64 0]) 5 48 Tryz.underlying56 hi hz0 hz1 hz2 rfl (by decide) _ _ _ rfl (F.out.pk.own.alloc _) ⟨W7.heap.size, 0, none⟩ 1 1 (#[.int .i64 a, .int .i64 p, .int .i64 b, .string nm, .int .i64 q] : Array Value).toList rfl rfl Hcs.out (by simp [Value.oneCell']) (by unfold maxLen; omega) (by omega) (by simp; omega) ?_; intro v' w5 hown' hgrow hnil)
       have Hpk8 := Lib.hid (F.out.pk.app ⟨a, p, b, nm, q⟩ _ hgrow hown')
       clear hown' hgrow hnil c0 c1 c2 c3 c4 cb cw
       go_roundw
       case rel =>
        refine ⟨k + 1, T, _, by omega, by go_num, HT.out, Hpk8.out, ?_, ?_, Hgood.out Hlb.out⟩
        ·
         rw [HtT.out, if_neg h18, ← HTe.out]
        ·
         rw [HtL.out, if_neg h18, ← Hle.out, HX.out]
       case measure => simp [intOf]; omega
      | cons z zs =>
       simp only [List.length_cons] at cw hwl9
       have hzl : decide ((0 : Int) < ((zs.length + 1 : Nat) : Int)) = true := decide_eq_true (by omega)
       have Hth := Lib.hid (F.out.pk.res.there Tms.zero.cells.toArray.size (Nat.le_refl _))
       go_upto_region 21 with fail
       go_wp2_with (first | (refine wp_store_mid 54 (.tmp 2) (.tmp 105) rfl w.heap.size 0 Tms.zero.cells.toArray rfl rfl Hth.out Hi2.out Hone.out ?_) | (refine wpList_store_mid rfl 54 (.tmp 2) (.tmp 105) rfl w.heap.size 0 Tms.zero.cells.toArray rfl rfl Hth.out Hi2.out Hone.out ?_))
       refine bodyPost_ret (results_cell3 rfl _ _ w.heap.size 54 Tms.zero.cells.toArray _ rfl (F.out.pk.res.fill Tms.zero.cells.toArray rfl) Tryz.underlying54 rfl Hi2.out) rfl ?_
       have hlb : lineBad k x = true := by rw [HB.out]; simp
       rw [HR.out, Hbad.out hlb]
       exact ⟨⟨_, rfl, SlK.nil 5 _⟩, below_sets (Nat.le_refl _) F.out.pk.below _ _⟩
     ·
      skip
      have Hth := Lib.hid (F.out.pk.res.there Tms.zero.cells.toArray.size (Nat.le_refl _))
      go_upto_region 21 with fail
      go_wp2_with (first | (refine wp_store_mid 54 (.tmp 2) (.tmp 105) rfl w.heap.size 0 Tms.zero.cells.toArray rfl rfl Hth.out Hi2.out Hone.out ?_) | (refine wpList_store_mid rfl 54 (.tmp 2) (.tmp 105) rfl w.heap.size 0 Tms.zero.cells.toArray rfl rfl Hth.out Hi2.out Hone.out ?_))
      refine bodyPost_ret (results_cell3 rfl _ _ w.heap.size 54 Tms.zero.cells.toArray _ rfl (F.out.pk.res.fill Tms.zero.cells.toArray rfl) Tryz.underlying54 rfl Hi2.out) rfl ?_
      have hlb : lineBad k x = true := by rw [HB.out]; simp
      rw [HR.out, Hbad.out hlb]
      exact ⟨⟨_, rfl, SlK.nil 5 _⟩, below_sets (Nat.le_refl _) F.out.pk.below _ _⟩

    ·
     have t1 := at_no hat
     obtain rfl : BB = true := by rw [hBB]; simp [hat]
     have Hat := Lib.hid hat
     clear hat hBB
     go_upto_region 15 with fail
     clear t1 cb gb
     generalize (W1.setCell ⟨bw + 1, 1, none⟩ (.bool (true))) = W1' at F ⊢

     go_wp2_with fail
     refine (F.out.int EP.out).mono ?_
     rintro e W2p ⟨rfl, f1⟩
     have c1 := f1.c.2.1; have g1 := f1.fr 1
     have f2 : PS w (W2p.setCell ⟨bw + 1 + 1, 1, none⟩ (.int .i64 p)) LK T u7 l bw ws0 RB ⟨0, p, 0, .empty, 0⟩ := f1.setC 1 (.int .i64 p) rfl
     replace F := Lib.hid f2
     clear f1 f2
     go_upto_region 16 with fail
     clear c1 g1
     generalize (W2p.setCell ⟨bw + 1 + 1, 1, none⟩ (.int .i64 p)) = W3p at F ⊢
     obtain ⟨a, r1, e1⟩ : ∃ a r, RB.int = (a, r) := ⟨_, _, rfl⟩
     obtain ⟨b, r2, e2⟩ : ∃ a r, r1.int = (a, r) := ⟨_, _, rfl⟩
     obtain ⟨nm, r3, e3⟩ : ∃ a r, r2.word = (a, r) := ⟨_, _, rfl⟩
     obtain ⟨q, r4, e4⟩ : ∃ a r, r3.int = (a, r) := ⟨_, _, rfl⟩
     have HX : Hid (lineX k x = (⟨a, p, b, nm, q⟩, r4)) := by
      show lineX k x = _
      unfold lineX lineC
      rw [if_pos (by omega), hr0]
      unfold Rdr.at_
      have E5 := EP.out
      rw [HBB.out] at E5
      simp only [EA.out, E5, e1, e2, e3, e4]
     have E1 := Lib.hid e1; have E2 := Lib.hid e2; have E3 := Lib.hid e3; have E4 := Lib.hid e4
     clear e1 e2 e3 e4
     go_wp2_with fail
     refine (F.out.int E1.out).mono ?_
     rintro e W1 ⟨rfl, f1⟩
     replace F := Lib.hid f1
     clear f1
     go_wp2_with fail
     refine (F.out.int E2.out).mono ?_
     rintro e W2 ⟨rfl, f1⟩
     have c0 := f1.c.1; have c2 := f1.c.2.2.1; have g0 := f1.fr 0; have g2 := f1.fr 2
     have f2 : PS w ((W2.setCell ⟨bw + 1 + 1, 0, none⟩ (.int .i64 a)).setCell ⟨bw + 1 + 1, 2, none⟩ (.int .i64 b)) LK T u7 l bw ws0 r2 ⟨a, p, b, .empty, 0⟩ := (f1.setC 0 (.int .i64 a) (d' := ⟨a, p, 0, .empty, 0⟩) rfl).setC 2 (.int .i64 b) rfl
     replace F := Lib.hid f2
     clear f1 f2
     go_upto_region 17 with fail
     clear c0 c2 g0 g2
     generalize ((W2.setCell ⟨bw + 1 + 1, 0, none⟩ (.int .i64 a)).setCell ⟨bw + 1 + 1, 2, none⟩ (.int .i64 b)) = W3' at F ⊢
     go_wp2_with fail
     refine (F.out.word E3.out).mono ?_
     rintro e W4 ⟨rfl, f1⟩
     have c3 := f1.c.2.2.2.1; have g3 := f1.fr 3
     have f2 : PS w (W4.setCell ⟨bw + 1 + 1, 3, none⟩ (.string nm)) LK T u7 l bw ws0 r3 ⟨a, p, b, nm, 0⟩ := f1.setC 3 (.string nm) rfl
     replace F := Lib.hid f2
     clear f1 f2
     go_upto_region 18 with fail
     clear c3 g3
     generalize (W4.setCell ⟨bw + 1 + 1, 3, none⟩ (.string nm)) = W5 at F ⊢
     go_wp2_with fail
     refine (F.out.int E4.out).mono ?_
     rintro e W6 ⟨rfl, f1⟩
     have c4 := f1.c.2.2.2.2; have g4 := f1.fr 4
     have f2 : PS w (W6.setCell ⟨bw + 1 + 1, 4, none⟩ (.int .i64 q)) LK T u7 l bw ws0 r4 ⟨a, p, b, nm, q⟩ := f1.setC 4 (.int .i64 q) rfl
     replace F := Lib.hid f2
     clear f1 f2
     go_upto_region 19 with fail
     clear c4 g4
     generalize (W6.setCell ⟨bw + 1 + 1, 4, none⟩ (.int .i64 q)) = W7 at F ⊢
     clear E1 E2 E3 E4 hr0
     obtain ⟨c0, c1, c2, c3, c4⟩ := F.out.c
     have cb := F.out.bad.1
     obtain ⟨AW, cW, cw⟩ := F.out.words
     obtain ⟨wsl, bd⟩ := r4
     have HB := Lib.hid (lineBad_of HX.out)
     have hwl9 := F.out.len
     simp only [] at c0 c1 c2 c3 c4 cb cw hwl9
     cases bd
     ·
      cases wsl with
      | nil =>
       simp only [List.length_nil] at cw
       have hlb : lineBad k x = false := by
        rw [HB.out]
        unfold placeBad
        simp [h18]
       have Hlb := Lib.hid hlb; clear hlb
       have hcs := new_cells W7 #[.int .i64 a, .int .i64 p, .int .i64 b, .string nm, .int .i64 q] 142
       have Hcs := Lib.hid hcs; clear hcs
       have hsz7 := F.out.pk.lns.lt
       go_wp2_with (at_builtin; refine wpList_append_own _ rfl _ _ 56 rfl (w.heap.size + 3) 142 i0 (.agg #[.int .i64 0, .int .i64 0, .int .i64 0, .string { data := #[] }, .int .i64 0]) 5 48 Tryz.underlying56 hi hz0 hz1 hz2 rfl (by decide) _ _ _ rfl (F.out.pk.own.alloc _) ⟨W7.heap.size, 0, none⟩ 1 1 (#[.int .i64 a, .int .i64 p, .int .i64 b, .string nm, .int .i64 q] : Array Value).toList rfl rfl Hcs.out (by simp [Value.oneCell']) (by unfold maxLen; omega) (by omega) (by simp; omega) ?_; intro v' w5 hown' hgrow hnil)
       have Hpk8 := Lib.hid (F.out.pk.app ⟨a, p, b, nm, q⟩ _ hgrow hown')
       clear hown' hgrow hnil c0 c1 c2 c3 c4 cb cw
       go_roundw
       case rel =>
        refine ⟨k + 1, T, _, by omega, by go_num, HT.out, Hpk8.out, ?_, ?_, Hgood.out Hlb.out⟩
        ·
         rw [HtT.out, if_neg h18, ← HTe.out]
        ·
         rw [HtL.out, if_neg h18, ← Hle.out, HX.out]
       case measure => simp [intOf]; omega
      | cons z zs =>
       simp only [List.length_cons] at cw hwl9
       have hzl : decide ((0 : Int) < ((zs.length + 1 : Nat) : Int)) = true := decide_eq_true (by omega)
       have Hth := Lib.hid (F.out.pk.res.there Tms.zero.cells.toArray.size (Nat.le_refl _))
       go_upto_region 21 with fail
       go_wp2_with (first | (refine wp_store_mid 54 (.tmp 2) (.tmp 105) rfl w.heap.size 0 Tms.zero.cells.toArray rfl rfl Hth.out Hi2.out Hone.out ?_) | (refine wpList_store_mid rfl 54 (.tmp 2) (.tmp 105) rfl w.heap.size 0 Tms.zero.cells.toArray rfl rfl Hth.out Hi2.out Hone.out ?_))
       refine bodyPost_ret (results_cell3 rfl _ _ w.heap.size 54 Tms.zero.cells.toArray _ rfl (F.out.pk.res.fill Tms.zero.cells.toArray rfl) Tryz.underlying54 rfl Hi2.out) rfl ?_
       have hlb : lineBad k x = true := by rw [HB.out]; simp
       rw [HR.out, Hbad.out hlb]
       exact ⟨⟨_, rfl, SlK.nil 5 _⟩, below_sets (Nat.le_refl _) F.out.pk.below _ _⟩
     ·
      skip
      have Hth := Lib.hid (F.out.pk.res.there Tms.zero.cells.toArray.size (Nat.le_refl _))
      go_upto_region 21 with fail
      go_wp2_with (first | (refine wp_store_mid 54 (.tmp 2) (.tmp 105) rfl w.heap.size 0 Tms.zero.cells.toArray rfl rfl Hth.out Hi2.out Hone.out ?_) | (refine wpList_store_mid rfl 54 (.tmp 2) (.tmp 105) rfl w.heap.size 0 Tms.zero.cells.toArray rfl rfl Hth.out Hi2.out Hone.out ?_))
      refine bodyPost_ret (results_cell3 rfl _ _ w.heap.size 54 Tms.zero.cells.toArray _ rfl (F.out.pk.res.fill Tms.zero.cells.toArray rfl) Tryz.underlying54 rfl Hi2.out) rfl ?_
      have hlb : lineBad k x = true := by rw [HB.out]; simp
      rw [HR.out, Hbad.out hlb]
      exact ⟨⟨_, rfl, SlK.nil 5 _⟩, below_sets (Nat.le_refl _) F.out.pk.below _ _⟩
  ·
   obtain rfl : k = n := by omega
   have e0 : ls.take k = ls := List.take_of_length_le (by rw [Hn.out]; exact Nat.le_refl _)
   have ed : ls.drop k = [] := List.drop_of_length_le (by rw [Hn.out]; exact Nat.le_refl _)
   rw [e0] at HTe Hle
   have Hnb : Hid (firstBad 0 ls = none) := by
    have := Hfb.out
    rw [ed] at this
    exact this
   clear e0 ed Hfb
   by_cases h18 : k < 18
   ·
    have h18' : (k : Int) < 18 := by omega
    have hR2 : parseLs ls = ⟨.zero, [], k, 28⟩ := by
     unfold parseLs
     rw [Hnb.out]
     simp only []
     rw [if_pos (by rw [Hn.out]; exact h18), Hn.out]
    have HR2 := Lib.hid hR2; clear hR2
    have Hth := Lib.hid (Hpk.out.res.there Tms.zero.cells.toArray.size (Nat.le_refl _))
    go_upto_region 27 with fail
    go_wp2_with (first | (refine wp_store_mid 54 (.tmp 2) (.tmp 119) rfl w.heap.size 0 Tms.zero.cells.toArray rfl rfl Hth.out Hi2.out Hone.out ?_) | (refine wpList_store_mid rfl 54 (.tmp 2) (.tmp 119) rfl w.heap.size 0 Tms.zero.cells.toArray rfl rfl Hth.out Hi2.out Hone.out ?_))
    refine bodyPost_ret (results_cell3 rfl _ _ w.heap.size 54 Tms.zero.cells.toArray _ rfl (Hpk.out.res.fill Tms.zero.cells.toArray rfl) Tryz.underlying54 rfl Hi2.out) rfl ?_
    rw [HR.out, HR2.out]
    exact ⟨⟨_, rfl, SlK.nil 5 _⟩, below_sets (Nat.le_refl _) Hpk.out.below _ _⟩
   ·
    have h18' : (18 : Int) ≤ (k : Int) := by omega
    have h18f : decide ((k : Int) < 18) = false := decide_eq_false (by omega)
    have hslk := SlK.of_own Hpk.out.own
    obtain ⟨AV, cV, rfl⟩ := slk_form hslk
    have Hcc := Lib.hid (checkChanges_pre T HT.out _ rfl l AV l.length cV rfl wr (RdC.of_slk hslk))
    have Hslk := Lib.hid hslk
    have HiT := Lib.hid (info54s T.cells.toArray.size (Tms.size36 T HT.out))
    have HoT := Lib.hid (Tms.oneCell T)
    have HsT := Lib.hid (Tms.size36 T HT.out)
    clear hslk
    have hR2 : checkChanges T l = 0 → parseLs ls = ⟨T, l, 0, 0⟩ := fun hC => by
     unfold parseLs
     rw [Hnb.out]
     simp only []
     rw [if_neg (by rw [Hn.out]; exact h18), ← HTe.out, ← Hle.out, if_neg (by rw [hC]; simp)]
    have hR3 : checkChanges T l ≠ 0 → parseLs ls = ⟨.zero, [], 0, checkChanges T l⟩ := fun hC => by
     unfold parseLs
     rw [Hnb.out]
     simp only []
     rw [if_neg (by rw [Hn.out]; exact h18), ← HTe.out, ← Hle.out, if_pos hC]
    have HR2 := Lib.hid hR2; have HR3 := Lib.hid hR3; clear hR2 hR3
    go_upto_region 28 with fail
    go_upto_region 29 with (first | (refine wpList_load_row rfl 54 _ rfl (w.heap.size + 1) rfl 54 T.cells.toArray (0, 0) _ Hpk.out.tms Tryz.underlying54 rfl HiT.out ?_) | (go_at_call 61; refine Hcc.out.mono ?_; rintro e w5 ⟨rfl, hb5⟩))
    have HP5 : Hid (PK w w5 LK T (.slice AV l.length cV) l) := Hpk.out.blw hb5
    have Hslk5 := Lib.hid (Hslk.out.below hb5)
    clear hb5
    by_cases hC : checkChanges T l = 0
    ·
     have hz : (checkChanges T l != 0) = false := by simpa using hC
     have HC := Lib.hid hC; clear hC
     have Hth := Lib.hid (HP5.out.res.there T.cells.toArray.size (by rw [HsT.out, Tms.size36 _ Tms.zero_ok]; exact Nat.le_refl _))
     go_upto_region 31 with fail
     go_wp2_with (first | (refine wpList_load_row rfl 54 _ rfl (w.heap.size + 1) rfl 54 T.cells.toArray (0, 0) _ HP5.out.tms Tryz.underlying54 rfl HiT.out ?_) | (refine wp_store_mid 54 (.tmp 2) (.tmp 129) rfl w.heap.size 0 T.cells.toArray rfl rfl Hth.out HiT.out HoT.out ?_) | (refine wpList_store_mid rfl 54 (.tmp 2) (.tmp 129) rfl w.heap.size 0 T.cells.toArray rfl rfl Hth.out HiT.out HoT.out ?_))
     refine bodyPost_ret (results_cell3 rfl _ _ w.heap.size 54 T.cells.toArray _ rfl (HP5.out.res.fill T.cells.toArray (by rw [HsT.out, Tms.size36 _ Tms.zero_ok])) Tryz.underlying54 rfl HiT.out) rfl ?_
     rw [HR.out, HR2.out HC.out]
     exact ⟨⟨_, rfl, slk_sets Hslk5.out HP5.out⟩, below_sets (Nat.le_refl _) HP5.out.below _ _⟩
    ·
     have hz : (checkChanges T l != 0) = true := by simpa using hC
     have HC := Lib.hid hC; clear hC
     have Hth := Lib.hid (HP5.out.res.there Tms.zero.cells.toArray.size (Nat.le_refl _))
     go_upto_region 30 with fail
     go_wp2_with (first | (refine wp_store_mid 54 (.tmp 2) (.tmp 127) rfl w.heap.size 0 Tms.zero.cells.toArray rfl rfl Hth.out Hi2.out Hone.out ?_) | (refine wpList_store_mid rfl 54 (.tmp 2) (.tmp 127) rfl w.heap.size 0 Tms.zero.cells.toArray rfl rfl Hth.out Hi2.out Hone.out ?_))
     refine bodyPost_ret (results_cell3 rfl _ _ w.heap.size 54 Tms.zero.cells.toArray _ rfl (HP5.out.res.fill Tms.zero.cells.toArray rfl) Tryz.underlying54 rfl Hi2.out) rfl ?_
     rw [HR.out, HR3.out HC.out]
     exact ⟨⟨_, rfl, SlK.nil 5 _⟩, below_sets (Nat.le_refl _) HP5.out.below _ _⟩
end Go.Proofs.YtmagppkclnebjaaGreatDoor
