/- lineup.lines; the parts of lineup.Parse: what lies in memory while a line is read. -/
import Derived.Test.YtmagppkclnebjaaGreatDoorB5
import Derived.Test.YtmagppkclnebjaaGreatDoorB6
import Derived.Test.YtmagppkclnebjaaGreatDoorA12
set_option linter.unusedVariables false
set_option linter.unusedSimpArgs false
set_option linter.unusedSimpArgs false
namespace Go.Proofs.YtmagppkclnebjaaGreatDoor
open Go.RowKit
open L

theorem cutC_len (c : UInt8) (keep : Bool) : ∀ l : List UInt8, (cutC c keep l).length ≤ l.length + 1
 | [] => Nat.le_refl _
 | b :: l => by
  have ih := cutC_len c keep l
  unfold cutC
  split
  ·
   simp; omega
  ·
   split
   ·
    simp
   ·
    rename_i h t e
    rw [e] at ih
    simp at ih ⊢; omega
theorem cutC_size (c : UInt8) (keep : Bool) : ∀ l : List UInt8, ∀ x ∈ cutC c keep l, x.length ≤ l.length
 | [], x, hx => by simp [cutC] at hx; rw [hx]; exact Nat.le_refl _
 | b :: l, x, hx => by
  have ih := cutC_size c keep l
  unfold cutC at hx
  split at hx
  ·
   rcases List.mem_cons.1 hx with rfl | hx
   ·
    cases keep <;> simp
   ·
    have := ih x hx; simp; omega
  ·
   split at hx
   ·
    simp at hx; rw [hx]; simp
   ·
    rename_i h t e
    rcases List.mem_cons.1 hx with rfl | hx
    ·
     have := ih h (by rw [e]; simp); simp; omega
    ·
     have := ih x (by rw [e]; simp [hx]); simp; omega
theorem wordsOf_len (b : Str) : (wordsOf b).length ≤ b.size + 1 := by
 unfold wordsOf
 rw [List.length_map]
 exact cutC_len 32 false b.data.toList
theorem wordsOf_size (b : Str) : ∀ s ∈ wordsOf b, s.size ≤ b.size := fun s hs => by
 unfold wordsOf at hs
 obtain ⟨x, hx, rfl⟩ := List.mem_map.1 hs
 exact cutC_size 32 false b.data.toList x hx
theorem linesK_len (b : Str) : (linesK b).length ≤ b.size + 1 := by
 unfold linesK
 rw [List.length_map]
 exact cutC_len 10 true b.data.toList
theorem linesK_size (b : Str) : ∀ s ∈ linesK b, s.size ≤ b.size := fun s hs => by
 unfold linesK at hs
 obtain ⟨x, hx, rfl⟩ := List.mem_map.1 hs
 exact cutC_size 10 true b.data.toList x hx
theorem linesK_ne (b : Str) : ∃ m, (linesK b).length = m + 1 := by
 obtain ⟨h, t, e⟩ := cutC_ne 10 true b.data.toList
 unfold linesK
 rw [e]
 exact ⟨_, rfl⟩
theorem bodyOf_size (s : Str) : (bodyOf s).size ≤ s.size := by
 unfold bodyOf Go.Lib.trimSuffix
 show (if _ then _ else _ : List UInt8).length ≤ s.data.toList.length
 split
 ·
  exact Nat.le_trans (List.length_take_le _ _) (Nat.sub_le _ _)
 ·
  exact Nat.le_refl _
theorem linesOf_len (s : Str) : (linesOf s).length ≤ (linesK s).length := by
 unfold linesOf
 split
 ·
  simp
 ·
  exact Nat.le_refl _
theorem linesOf_get (s : Str) (k : Nat) (hk : k < (linesOf s).length) : (linesK s)[k]? = some ((linesOf s).getD k .empty) := by
 have e : (linesOf s)[k]? = (linesK s)[k]? := by
  unfold linesOf at hk ⊢
  split at hk
  ·
   rename_i h
   rw [if_pos h, List.getElem?_dropLast, if_pos (by simpa using hk)]
  ·
   rename_i h
   rw [if_neg h]
 rw [← e, List.getD, List.getElem?_eq_getElem hk]; rfl
theorem linesOf_size (s : Str) (k : Nat) (hk : k < (linesOf s).length) : ((linesOf s).getD k .empty).size ≤ s.size :=
 linesK_size s _ (List.mem_of_getElem? (linesOf_get s k hk))

theorem splitAfter_any (s : Str) (w : World) (hE : Env w) (hs : s.size ≤ 100000) :
 Calls Tryz.prog 125 #[.string s, .string { data := #[10] }] w fun x w' => x = .returned (.slice (some ⟨w.heap.size, 0, none⟩) (linesK s).length (linesK s).length) ∧ w' = w.alloc (.cells ((linesK s).map Value.string).toArray 9) := by
 obtain ⟨m, hm⟩ := hE.len
 have hc := Go.Lib.countB_le ⟨#[10]⟩ (Nat.le_refl 1) s.size s (Nat.le_refl _)
 have hg := Tryz.strings_genSplit s ⟨#[10]⟩ 1 (-1) (Go.Lib.countB s ⟨#[10]⟩ + 1) m w (by omega) hm (Nat.le_refl 1) (Nat.le_refl 1) (by omega) (by omega) (by rw [if_pos (by omega)]; omega)
 have e1 : Go.Lib.splitB ⟨#[10]⟩ 1 (Go.Lib.countB s ⟨#[10]⟩ + 1 - 1) s = linesK s := splitB_cutC 10 true s
 have e2 : Go.Lib.countB s ⟨#[10]⟩ + 1 = (linesK s).length := by
  unfold linesK; rw [List.length_map, cutC_count]
 rw [e1, e2, Go.Lib.cellsOf_full] at hg
 have Hg := Lib.hid hg
 clear hg e1 e2 hc hm hE
 go_enter Tryz.func125, Tryz.ntmps125
 go_wp2_with (go_at_call 127; refine Hg.out.mono ?_; rintro e w1 ⟨rfl, rfl⟩)
 go_ret
 exact ⟨rfl, rfl⟩
theorem splitW_any (b : Str) (w : World) (hE : Env w) (hs : b.size ≤ 100000) :
 Calls Tryz.prog 78 #[.string b, .string { data := #[32] }] w fun x w' => x = .returned (.slice (some ⟨w.heap.size, 0, none⟩) (wordsOf b).length (wordsOf b).length) ∧ w' = w.alloc (.cells ((wordsOf b).map Value.string).toArray 9) := by
 obtain ⟨m, hm⟩ := hE.len
 have hg := Tryz.strings_Split b ⟨#[32]⟩ m w (by omega) hm (Nat.le_refl 1)
 have e1 : Go.Lib.splitB ⟨#[32]⟩ 0 (Go.Lib.countB b ⟨#[32]⟩) b = wordsOf b := splitB_cutC 32 false b
 have e2 : Go.Lib.countB b ⟨#[32]⟩ + 1 = (wordsOf b).length := by
  unfold wordsOf; rw [List.length_map, cutC_count]
 rw [e1, e2] at hg
 exact hg
theorem cutSuffix_any (x : Str) (w : World) (hs : x.size ≤ 100000) :
 Calls Tryz.prog 77 #[.string x, .string { data := #[10] }] w fun e w' => e = .returned (.tuple #[.string (bodyOf x), .bool (wholeOf x)]) ∧ w' = w :=
 Tryz.strings_CutSuffix x ⟨#[10]⟩ w (by omega)

theorem lines_any (s : Str) (w : World) (hE : Env w) (hs : s.size ≤ 100000) :
 Calls Tryz.prog 76 #[.string s] w fun x w' => (∃ c, x = .returned (.slice (some ⟨w.heap.size, 0, none⟩) (linesOf s).length c)) ∧ w' = w.alloc (.cells ((linesK s).map Value.string).toArray 9) := by
 have Hsp := Lib.hid (splitAfter_any s w hE hs)
 obtain ⟨m, hm⟩ := linesK_ne s
 have hlast : (linesK s).getLast? = (linesK s)[m]? := by rw [List.getLast?_eq_getElem?, hm]; rfl
 have hlen := linesK_len s
 have hx : (linesK s)[m]? = some ((linesK s).getD m .empty) := by rw [List.getD, List.getElem?_eq_getElem (by omega)]; rfl
 have hLO : linesOf s = if (linesK s).getD m .empty = .empty then (linesK s).dropLast else linesK s := by
  unfold linesOf; rw [hlast, hx]; simp
 have hcell : (w.alloc (.cells ((linesK s).map Value.string).toArray 9)).cell? ⟨w.heap.size, m, none⟩ = some (.string ((linesK s).getD m .empty)) := by
  rw [(Bk.new w 9 _).cell, List.getElem?_toArray, List.getElem?_map, hx]; rfl
 rw [hm] at Hsp
 have Hm := Lib.hid hm
 generalize linesK s = LK at *
 generalize LK.getD m .empty = x at *
 have HLO := Lib.hid hLO
 clear hlast hx hLO hm hE
 have hm1 : m ≤ 100000 := by have := Hm.out; omega
 clear hlen hs
 by_cases he : x = ByteArray.empty
 ·
  have hxe : x.toList.isEmpty = true := by rw [he, ByteArray.toList_eq]; rfl
  have hl2 : (linesOf s).length = m := by rw [HLO.out, if_pos he, List.length_dropLast, Hm.out]; rfl
  rw [hl2]
  clear he hl2
  go_enter Tryz.func76, Tryz.ntmps76
  go_wp2_with (go_at_call 125; refine Hsp.out.mono ?_; rintro e w1 ⟨rfl, rfl⟩)
  go_ret
  exact ⟨⟨_, rfl⟩, rfl⟩
 ·
  have hxe : x.toList.isEmpty = false := by
   cases hh : x.toList.isEmpty with
   | false => rfl
   | true =>
    exfalso
    apply he
    rw [List.isEmpty_iff, ByteArray.toList_eq] at hh
    cases x with | mk d => cases d with | mk l => simp at hh; rw [hh]; rfl
  have hl2 : (linesOf s).length = m + 1 := by rw [HLO.out, if_neg he, Hm.out]
  rw [hl2]
  clear he hl2
  go_enter Tryz.func76, Tryz.ntmps76
  go_wp2_with (go_at_call 125; refine Hsp.out.mono ?_; rintro e w1 ⟨rfl, rfl⟩)
  go_ret
  exact ⟨⟨_, rfl⟩, rfl⟩

/-- what lies while lines are read: the result's block, the teams, the lines, the changes so far -/
structure PK (w W : World) (LK : List Str) (T : Tms) (v : Value) (l : List Chg) : Prop where
 below : Below w.heap.size w W
 res : Bk W w.heap.size 54 Tms.zero.cells.toArray
 tms : Bk W (w.heap.size + 1) 54 T.cells.toArray
 lns : Bk W (w.heap.size + 2) 9 (LK.map Value.string).toArray
 own : W.ownsRow (w.heap.size + 3) 142 5 v l.length (flatC l)
section
variable {w W W' : World} {LK : List Str} {T : Tms} {v : Value} {l : List Chg}
theorem PK.grown (h : PK w W LK T v l) {g : Nat} (hg : W.grownBy W' (some g)) (hlt : w.heap.size + 3 ≤ g) (hv : v.ownBlock ≠ some g) : PK w W' LK T v l := by
 have h1 := h.below.size
 have hr := h.lns.lt
 refine ⟨h.below.grown hg h1 (fun q hq => by have := Option.some.inj hq; omega), (hg.block _ h.res.lt (fun e => by have := Option.some.inj e; omega)).trans h.res, (hg.block _ h.tms.lt (fun e => by have := Option.some.inj e; omega)).trans h.tms, (hg.block _ h.lns.lt (fun e => by have := Option.some.inj e; omega)).trans h.lns, h.own.kept hg (.inr hv)⟩
theorem PK.alloc (h : PK w W LK T v l) (o : Obj) : PK w (W.alloc o) LK T v l :=
 ⟨bt_alloc h.below o, h.res.alloc o, h.tms.alloc o, h.lns.alloc o, h.own.alloc o⟩
end
/-- .. and the line's reader, its words, and its change -/
structure PS (w W : World) (LK : List Str) (T : Tms) (v : Value) (l : List Chg) (bw : Nat) (ws0 : List Str) (r : Rdr) (d : Chg) : Prop where
 pk : PK w W LK T v l
 rdr : RdrAt W (bw + 1) bw ws0 r
 chg : Bk W (bw + 1 + 1) 142 d.val
 env : Env w
 low : w.heap.size + 3 ≤ bw
 ov : ∀ q, v.ownBlock = some q → q < bw
 len : r.ws.length ≤ 100000
 sz : ∀ s ∈ r.ws, s.size ≤ 100000
section
variable {w W W' : World} {LK : List Str} {T : Tms} {v : Value} {l : List Chg} {bw : Nat} {ws0 : List Str} {r r' : Rdr} {d : Chg}
theorem PS.rd (h : PS w W LK T v l bw ws0 r d) (hr : RdrAt W' (bw + 1) bw ws0 r') (hg : W.grownBy W' (some (bw + 1))) (hl : r'.ws.length ≤ 100000) (hs : ∀ s ∈ r'.ws, s.size ≤ 100000) : PS w W' LK T v l bw ws0 r' d :=
 ⟨h.pk.grown hg (by have := h.low; omega) (fun e => by have := h.ov _ e; omega), hr, (hg.block _ h.chg.lt (fun e => by have := Option.some.inj e; omega)).trans h.chg, h.env, h.low, h.ov, hl, hs⟩
theorem PS.envW (h : PS w W LK T v l bw ws0 r d) : Env W := env_below h.env h.pk.below
theorem PS.word (h : PS w W LK T v l bw ws0 r d) {a : Str} (e : r.word = (a, r')) : Calls Tryz.prog 80 #[.pointer (some ⟨bw + 1, 0, none⟩)] W fun x W' => x = .returned (.string a) ∧ PS w W' LK T v l bw ws0 r' d := by
 have h1 := word_size r 100000 h.sz
 have h2 := word_len r
 have h3 := h.len
 refine (word_any (bw + 1) bw ws0 r W h.rdr h.len).mono ?_
 rintro x W' ⟨rfl, hr, hg⟩
 rw [e] at hr h1 h2
 exact ⟨by rw [e], h.rd hr hg (by have h4 : r'.ws.length ≤ r.ws.length := h2; omega) h1.2⟩
theorem PS.int (h : PS w W LK T v l bw ws0 r d) {a : Int} (e : r.int = (a, r')) : Calls Tryz.prog 79 #[.pointer (some ⟨bw + 1, 0, none⟩)] W fun x W' => x = .returned (.int .i64 a) ∧ PS w W' LK T v l bw ws0 r' d := by
 have h1 := word_size r 100000 h.sz
 have h2 := word_len r
 have h3 := h.len
 refine (rint_any (bw + 1) bw ws0 r W h.rdr h.len (fun s hs => by have := h.sz s hs; omega) h.envW (by have := h.low; have := h.env.six; omega)).mono ?_
 rintro x W' ⟨rfl, hr, hg⟩
 have e2 : r.int.2.ws = r.word.2.ws := rfl
 rw [e] at hr e2
 have e3 : r'.ws = r.word.2.ws := e2
 exact ⟨by rw [e], h.rd hr hg (by rw [e3]; omega) (by rw [e3]; exact h1.2)⟩
theorem PS.setC (h : PS w W LK T v l bw ws0 r d) (i : Nat) (u : Value) {d' : Chg} (hd : d.val.setIfInBounds i u = d'.val) : PS w (W.setCell ⟨bw + 1 + 1, i, none⟩ u) LK T v l bw ws0 r d' := by
 have hg := grown_set' W ⟨bw + 1 + 1, i, none⟩ u
 have hlow := h.low
 obtain ⟨g1, g2, A, c, g3, g4⟩ := h.rdr
 refine ⟨h.pk.grown hg (by show _ ≤ bw + 1 + 1; omega) (fun e => by have e' : v.ownBlock = some (bw + 1 + 1) := e; have := h.ov _ e'; omega), ⟨g1, g2.far (p := ⟨bw + 1 + 1, i, none⟩) (by show bw ≠ bw + 1 + 1; omega) _, A, c, g3.far (p := ⟨bw + 1 + 1, i, none⟩) (by show bw + 1 ≠ bw + 1 + 1; omega) _, g4⟩, ?_, h.env, h.low, h.ov, h.len, h.sz⟩
 rw [← hd]
 exact h.chg.set_ i u
theorem PS.setB (h : PS w W LK T v l bw ws0 r d) (b : Bool) : PS w (W.setCell ⟨bw + 1, 1, none⟩ (.bool b)) LK T v l bw ws0 ⟨r.ws, b⟩ d := by
 have hg := grown_set' W ⟨bw + 1, 1, none⟩ (.bool b)
 have hlow := h.low
 obtain ⟨g1, g2, A, c, g3, g4⟩ := h.rdr
 refine ⟨h.pk.grown hg (by show _ ≤ bw + 1; omega) (fun e => by have e' : v.ownBlock = some (bw + 1) := e; have := h.ov _ e'; omega), ⟨g1, g2.far (p := ⟨bw + 1, 1, none⟩) (by show bw ≠ bw + 1; omega) _, A, c, ?_, g4⟩, h.chg.far (p := ⟨bw + 1, 1, none⟩) (by show bw + 1 + 1 ≠ bw + 1; omega) _, h.env, h.low, h.ov, h.len, h.sz⟩
 exact g3.set_ 1 _
theorem PS.bad (h : PS w W LK T v l bw ws0 r d) : W.cell? ⟨bw + 1, 1, none⟩ = some (.bool r.bad) ∧ W.frozen? ⟨bw + 1, 1, none⟩ = false := by
 obtain ⟨g1, g2, A, c, g3, g4⟩ := h.rdr
 exact ⟨by rw [g3.cell]; rfl, g3.frozen _⟩
theorem PS.words (h : PS w W LK T v l bw ws0 r d) : ∃ A c, W.cell? ⟨bw + 1, 0, none⟩ = some (.slice A r.ws.length c) := by
 obtain ⟨g1, g2, A, c, g3, g4⟩ := h.rdr
 exact ⟨A, c, by rw [g3.cell]; rfl⟩
theorem PS.fr (h : PS w W LK T v l bw ws0 r d) (i : Nat) : W.frozen? ⟨bw + 1 + 1, i, none⟩ = false := h.chg.frozen i
theorem PS.c (h : PS w W LK T v l bw ws0 r d) : W.cell? ⟨bw + 1 + 1, 0, none⟩ = some (.int .i64 d.side) ∧ W.cell? ⟨bw + 1 + 1, 1, none⟩ = some (.int .i64 d.play) ∧ W.cell? ⟨bw + 1 + 1, 2, none⟩ = some (.int .i64 d.slot) ∧ W.cell? ⟨bw + 1 + 1, 3, none⟩ = some (.string d.name) ∧ W.cell? ⟨bw + 1 + 1, 4, none⟩ = some (.int .i64 d.pos) := by
 refine ⟨?_, ?_, ?_, ?_, ?_⟩ <;> (rw [h.chg.cell]; rfl)
end
theorem results_cell3 {P : Program} {fn : Func} {p u1 u2 u3 : Tmp} {ty : TypeId} (h : fn.results = #[.cell p ty, .tmp u1, .tmp u2, .tmp u3]) (tmps : Array Value) (w : World) (g : Nat) (t : TypeId) (cs : Array Value) (d : TypeDesc)
 (hp : tmps.getD p undef = .pointer (some ⟨g, 0, none⟩)) (hg : Bk w g t cs)
 (hu : P.underlying ty = some d) (hd : (match d with | .struct _ | .array _ _ => true | _ => false) = true) (hi : (P.info? ty).map (·.size) = some cs.size) :
 (results fn tmps).run P w = .ok (.tuple #[.agg cs, tmps.getD u1 undef, tmps.getD u2 undef, tmps.getD u3 undef]) w := by
 have hp' : tmps[p]?.getD undef = .pointer (some ⟨g, 0, none⟩) := by simpa using hp
 simp [results, h, hp', asAddr, run_loadVar_row w g t ty cs (0, 0) d hg hu hd hi]
end Go.Proofs.YtmagppkclnebjaaGreatDoor
