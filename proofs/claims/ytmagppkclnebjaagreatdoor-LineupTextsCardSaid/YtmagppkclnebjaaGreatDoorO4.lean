/- Parse: the reference's test of a line and the program's are one; the lines of both: the plain law; no program stands here. -/
import Derived.Test.YtmagppkclnebjaaGreatDoorZ1
import Derived.Test.YtmagppkclnebjaaGreatDoorQp
set_option linter.unusedVariables false
set_option linter.unusedSimpArgs false
set_option linter.unusedSimpArgs false
set_option linter.unusedVariables false
namespace Go.Proofs.YtmagppkclnebjaaGreatDoor
namespace L

def wAt (w : List Str) (k : Nat) : Str := w.getD k .empty
def nAt (w : List Str) (k : Nat) : Int := numR (wAt w k).data.toList
/-- the reference's test of a line's words -/
def okW (i : Nat) (w : List Str) : Bool :=
 if i < 18 then decide (w.length = 4) && decide (wAt w 0 = decS (i / 9 : Nat)) && decide (wAt w 1 = decS (((i % 9 : Nat) : Int) + 1)) && !decide (wAt w 2 = .empty) && decide (0 ≤ nAt w 3)
 else decide (w.length = 6) && decide (wAt w 0 = atW) && decide (0 ≤ nAt w 1) && decide (0 ≤ nAt w 2) && decide (0 ≤ nAt w 3) && !decide (wAt w 4 = .empty) && decide (0 ≤ nAt w 5)
/-- what a line says -/
def chW (i : Nat) (w : List Str) : Chg := if i < 18 then ⟨(i / 9 : Nat), 0, ((i % 9 : Nat) : Int) + 1, wAt w 2, nAt w 3⟩ else ⟨nAt w 2, nAt w 1, nAt w 3, wAt w 4, nAt w 5⟩
theorem numOk_ne {s : Str} (h : numOk s = true) : s ≠ .empty := by
 rintro rfl
 revert h
 have : numOk .empty = false := by kernel_rfl
 rw [this]; intro h; cases h
theorem word_ne {s : Str} (h : s ≠ .empty) (r : List Str) (b : Bool) : Rdr.word ⟨s :: r, b⟩ = (s, ⟨r, b⟩) := by
 unfold Rdr.word
 simp only [if_neg h]
theorem int_num {s : Str} (h : numOk s = true) (r : List Str) (b : Bool) : Rdr.int ⟨s :: r, b⟩ = (atoiV s, ⟨r, b⟩) := by
 unfold Rdr.int
 rw [word_ne (numOk_ne h)]
 simp [h]
theorem int_inv2 {r r' : Rdr} {a : Int} (h : r.int = (a, r')) (hb : r'.bad = false) : ∃ s, r.ws = s :: r'.ws ∧ numOk s = true ∧ a = atoiV s ∧ r.bad = false := by
 unfold Rdr.int at h
 simp only [Prod.mk.injEq] at h
 obtain ⟨h1, h2⟩ := h
 rw [← h2] at hb
 simp only [Bool.or_eq_false_iff, Bool.not_eq_false'] at hb
 have := word_inv (r := r) (a := r.word.1) (r' := r.word.2) rfl hb.1
 exact ⟨r.word.1, by rw [← h2]; exact this.1, hb.2, h1.symm, this.2⟩
theorem word_inv2 {r r' : Rdr} {a : Str} (h : r.word = (a, r')) (hb : r'.bad = false) : r.ws = a :: r'.ws ∧ a ≠ .empty ∧ r.bad = false := by
 obtain ⟨ws, b⟩ := r
 unfold Rdr.word at h
 cases ws with
 | nil => simp only [Prod.mk.injEq] at h; rw [← h.2] at hb; cases hb
 | cons w q =>
  simp only at h
  split at h
  ·
   simp only [Prod.mk.injEq] at h; rw [← h.2] at hb; cases hb
  ·
   rename_i hne
   simp only [Prod.mk.injEq] at h; obtain ⟨rfl, rfl⟩ := h; exact ⟨rfl, hne, hb⟩
theorem num_ge {s : Str} : 0 ≤ numR s.data.toList ↔ numOk s = true := by rw [(num_same s).1]; simp
theorem dec_num (n : Nat) (h : n < 1000000000) : numOk (decS n) = true ∧ atoiV (decS n) = n := numOk_dec n h
def badW (i : Nat) (w : List Str) : Bool := (lineC i ⟨w, false⟩).2.bad || placeBad i (lineC i ⟨w, false⟩).1 || decide (0 < (lineC i ⟨w, false⟩).2.ws.length)
theorem okW_good {i : Nat} {w : List Str} (h : okW i w = true) : badW i w = false ∧ (lineC i ⟨w, false⟩).1 = chW i w := by
 unfold okW at h
 by_cases hi : i < 18
 ·
  rw [if_pos hi] at h
  simp only [Bool.and_eq_true, decide_eq_true_eq, Bool.not_eq_true', decide_eq_false_iff_not] at h
  obtain ⟨⟨⟨⟨hl, h0⟩, h1⟩, h2⟩, h3⟩ := h
  match w, hl with
  | [s0, s1, s2, s3], _ =>
   simp only [wAt, nAt, List.getD_cons_zero, List.getD_cons_succ] at h0 h1 h2 h3
   have n3 := num_ge.1 h3
   have v3 := (num_same s3).2 n3
   have d0 := dec_num (i / 9) (by omega)
   have d1 := dec_num (i % 9 + 1) (by omega)
   rw [← h0] at d0
   have e1 : ((i % 9 + 1 : Nat) : Int) = ((i % 9 : Nat) : Int) + 1 := by omega
   rw [e1, ← h1] at d1
   have e : lineC i ⟨[s0, s1, s2, s3], false⟩ = (⟨(i / 9 : Nat), 0, ((i % 9 : Nat) : Int) + 1, s2, numR s3.data.toList⟩, ⟨[], false⟩) := by
    refine (lineC_parts (r1 := ⟨[s0, s1, s2, s3], false⟩) (by rw [if_neg (by omega)]) (int_num d0.1 _ _) (int_num d1.1 _ _) (word_ne h2 _ _) (int_num n3 _ _)).trans ?_
    rw [d0.2, d1.2, v3]
   unfold badW chW
   rw [e, if_pos hi]
   exact ⟨by simp [placeBad], rfl⟩
 ·
  rw [if_neg hi] at h
  simp only [Bool.and_eq_true, decide_eq_true_eq, Bool.not_eq_true', decide_eq_false_iff_not] at h
  obtain ⟨⟨⟨⟨⟨⟨hl, h0⟩, h1⟩, h2⟩, h3⟩, h4⟩, h5⟩ := h
  match w, hl with
  | [s0, s1, s2, s3, s4, s5], _ =>
   simp only [wAt, nAt, List.getD_cons_zero, List.getD_cons_succ] at h0 h1 h2 h3 h4 h5
   have n1 := num_ge.1 h1; have n2 := num_ge.1 h2; have n3 := num_ge.1 h3; have n5 := num_ge.1 h5
   have v1 := (num_same s1).2 n1; have v2 := (num_same s2).2 n2; have v3 := (num_same s3).2 n3; have v5 := (num_same s5).2 n5
   subst h0
   have e : lineC i ⟨[atW, s1, s2, s3, s4, s5], false⟩ = (⟨numR s2.data.toList, numR s1.data.toList, numR s3.data.toList, s4, numR s5.data.toList⟩, ⟨[], false⟩) := by
    refine (lineC_parts (by rw [if_pos (by omega), at_ok]; exact int_num n1 _ _) (int_num n2 _ _) (int_num n3 _ _) (word_ne h4 _ _) (int_num n5 _ _)).trans ?_
    rw [v1, v2, v3, v5]
   unfold badW chW
   rw [e, if_neg hi]
   exact ⟨by simp [placeBad, hi], rfl⟩
theorem okW_bad {i : Nat} {w : List Str} (h : badW i w = false) : okW i w = true := by
 unfold badW at h
 simp only [Bool.or_eq_false_iff, decide_eq_false_iff_not] at h
 obtain ⟨⟨hb, hp⟩, hw⟩ := h
 obtain ⟨r1, r2, r3, r4, r5, play, side, slot, pos, name, cp, ca, cb, cn, cq, e⟩ := lineC_chain i ⟨w, false⟩
 rw [e] at hb hp hw
 simp only at hb hp hw
 have hw0 : r5.ws = [] := List.length_eq_zero_iff.1 (by omega)
 obtain ⟨s5, w5, k5, a5, b5⟩ := int_inv2 cq hb
 obtain ⟨w4, k4, b4⟩ := word_inv2 cn b5
 obtain ⟨s3, w3, k3, a3, b3⟩ := int_inv2 cb b4
 obtain ⟨s2, w2, k2, a2, b2⟩ := int_inv2 ca b3
 rw [hw0] at w5
 rw [w5] at w4; rw [w4] at w3; rw [w3] at w2
 unfold okW
 by_cases hi : i < 18
 ·
  rw [if_neg (by omega)] at cp
  simp only [Prod.mk.injEq] at cp
  obtain ⟨_, rfl⟩ := cp
  simp only at w2
  subst w2
  unfold placeBad at hp
  rw [decide_eq_true hi, Bool.true_and] at hp
  simp only [Bool.or_eq_false_iff, bne_eq_false_iff_eq] at hp
  rw [if_pos hi]
  simp only [Bool.and_eq_true, decide_eq_true_eq, Bool.not_eq_true', decide_eq_false_iff_not, wAt, nAt, List.getD_cons_zero, List.getD_cons_succ, List.length_cons, List.length_nil]
  refine ⟨⟨⟨⟨trivial, ?_⟩, ?_⟩, k4⟩, num_ge.2 k5⟩
  ·
   rw [← hp.1, a2]; exact numOk_inv k2
  ·
   rw [← hp.2, a3]; exact numOk_inv k3
 ·
  rw [if_pos (by omega)] at cp
  obtain ⟨s1, w1, k1, a1, b1⟩ := int_inv2 cp b2
  obtain ⟨w0, b0⟩ := at_inv b1
  rw [w2] at w1; rw [w1] at w0
  simp only at w0
  subst w0
  rw [if_neg hi]
  simp only [Bool.and_eq_true, decide_eq_true_eq, Bool.not_eq_true', decide_eq_false_iff_not, wAt, nAt, List.getD_cons_zero, List.getD_cons_succ, List.length_cons, List.length_nil]
  exact ⟨⟨⟨⟨⟨⟨by trivial, by trivial⟩, num_ge.2 k1⟩, num_ge.2 k2⟩, num_ge.2 k3⟩, k4⟩, num_ge.2 k5⟩
theorem okW_iff (i : Nat) (w : List Str) : badW i w = !okW i w := by
 cases h : okW i w with
 | true => rw [(okW_good h).1]; rfl
 | false =>
  cases h2 : badW i w with
  | true => rfl
  | false => rw [okW_bad h2] at h; cases h

/-! ### the lines of both -/
theorem cutC_both (c : UInt8) : ∀ l : List UInt8, ∃ init last, cutC c false l = init ++ [last] ∧ cutC c true l = init.map (· ++ [c]) ++ [last] ∧ ∀ p ∈ init ++ [last], c ∉ p
 | [] => ⟨[], [], rfl, rfl, by simp⟩
 | b :: l => by
  obtain ⟨init, last, e1, e2, e3⟩ := cutC_both c l
  by_cases hb : b = c
  ·
   subst hb
   refine ⟨[] :: init, last, by simp [cutC, e1], by simp [cutC, e2], ?_⟩
   intro p hp
   rw [List.cons_append] at hp
   rcases List.mem_cons.1 hp with rfl | hp
   ·
    simp
   ·
    exact e3 p hp
  ·
   cases init with
   | nil =>
    refine ⟨[], b :: last, by simp [cutC, e1, hb], by simp [cutC, e2, hb], ?_⟩
    intro p hp
    simp only [List.nil_append, List.mem_singleton] at hp
    subst hp
    have := e3 last (by simp)
    simp only [List.mem_cons, not_or]
    exact ⟨fun h => hb h.symm, this⟩
   | cons x init =>
    refine ⟨(b :: x) :: init, last, by simp [cutC, e1, hb], by simp [cutC, e2, hb], ?_⟩
    intro p hp
    rw [List.cons_append] at hp
    rcases List.mem_cons.1 hp with rfl | hp
    ·
     have := e3 x (by simp)
     simp only [List.mem_cons, not_or]
     exact ⟨fun h => hb h.symm, this⟩
    ·
     exact e3 p (by rw [List.cons_append]; exact List.mem_cons_of_mem _ hp)
/-- the program's lines out of the pieces -/
theorem linesOf_cut (s : Str) : ∃ init last, cutC 10 false s.data.toList = init ++ [last] ∧ linesOf s = (init.map fun p => mkS (p ++ [10])) ++ (if last = [] then [] else [mkS last]) ∧ ∀ p ∈ init ++ [last], (10 : UInt8) ∉ p := by
 obtain ⟨init, last, e1, e2, e3⟩ := cutC_both 10 s.data.toList
 refine ⟨init, last, e1, ?_, e3⟩
 have e : linesK s = (init.map fun p => mkS (p ++ [10])) ++ [mkS last] := by
  unfold linesK
  rw [e2, List.map_append, List.map_map]; rfl
 unfold linesOf
 rw [e]
 by_cases h : last = []
 ·
  rw [if_pos h, if_pos (by rw [List.getLast?_concat, h]; rfl), List.dropLast_concat, List.append_nil]
 ·
  rw [if_neg h, if_neg (by rw [List.getLast?_concat]; intro x; exact h (mkS_empty.1 (Option.some.inj x)))]
/-- the words of a piece -/
def wordsP (p : List UInt8) : List Str := (cutC 32 false p).map mkS
theorem lineX_piece (i : Nat) (p : List UInt8) (h : (10 : UInt8) ∉ p) : lineX i (mkS (p ++ [10])) = lineC i ⟨wordsP p, false⟩ := by
 have hsuf : Go.Lib.hasSuffix (p ++ [10]) [10] = true := by
  unfold Go.Lib.hasSuffix
  rw [List.isSuffixOf_iff_suffix]
  exact ⟨_, rfl⟩
 have e : rdrOf (mkS (p ++ [10])) = ⟨wordsP p, false⟩ := by
  have h1 : wholeOf (mkS (p ++ [10])) = true := by unfold wholeOf; rw [mkS_data]; exact hsuf
  have h2 : (bodyOf (mkS (p ++ [10]))).data.toList = p := by
   unfold bodyOf; rw [mkS_data, Go.Lib.trimSuffix, if_pos hsuf]; simp
  unfold rdrOf wordsOf
  rw [h1, h2]; rfl
 unfold lineX
 rw [e]
theorem lineBad_piece (i : Nat) (p : List UInt8) (h : (10 : UInt8) ∉ p) : lineBad i (mkS (p ++ [10])) = !okW i (wordsP p) := by
 unfold lineBad
 rw [lineX_piece i p h, ← okW_iff]; rfl
theorem lineBad_torn (i : Nat) (p : List UInt8) (h : (10 : UInt8) ∉ p) : lineBad i (mkS p) = true := by
 have hw : wholeOf (mkS p) = false := by
  unfold wholeOf Go.Lib.hasSuffix
  rw [mkS_data]
  cases hx : List.isSuffixOf [10] p with
  | false => rfl
  | true =>
   rw [List.isSuffixOf_iff_suffix] at hx
   obtain ⟨q, hq⟩ := hx
   exact absurd (by rw [← hq]; simp) h
 unfold lineBad
 rw [lineX_torn hw]; rfl
/-- the teams and changes of the first k pieces -/
def tmsP (init : List (List UInt8)) (k : Nat) : Tms := pT 0 .zero ((init.take k).map fun p => mkS (p ++ [10]))
def chgP (init : List (List UInt8)) (k : Nat) : List Chg := pL 0 ((init.take k).map fun p => mkS (p ++ [10]))
theorem firstBad_at {ls : List Str} {x : Str} {r : List Str} : ∀ {i : Nat}, (∀ j y, ls[j]? = some y → lineBad (i + j) y = false) → lineBad (i + ls.length) x = true → firstBad i (ls ++ x :: r) = some (i + ls.length) := by
 induction ls with
 | nil => intro i _ h; rw [List.nil_append, firstBad]; rw [List.length_nil, Nat.add_zero] at h; rw [if_pos h]; rfl
 | cons y q ih =>
  intro i h0 h
  rw [List.cons_append, firstBad]
  have hy := h0 0 y rfl
  rw [Nat.add_zero] at hy
  rw [if_neg (by rw [hy]; simp), ih (i := i + 1) (fun j z hz => by rw [Nat.add_assoc, Nat.add_comm 1]; exact h0 (j + 1) z hz) (by rw [List.length_cons, Nat.add_comm q.length, ← Nat.add_assoc] at h; exact h), List.length_cons]
  congr 1; omega
structure CutS (s : Str) (init : List (List UInt8)) (last : List UInt8) : Prop where
 cut : cutC 10 false s.data.toList = init ++ [last]
 lines : linesOf s = (init.map fun p => mkS (p ++ [10])) ++ (if last = [] then [] else [mkS last])
 free : ∀ p ∈ init ++ [last], (10 : UInt8) ∉ p
theorem tmsP_succ {s : Str} {init : List (List UInt8)} {last : List UInt8} (H : CutS s init last) (k : Nat) (hk : k < init.length) (ho : okW k (wordsP init[k]) = true) :
 tmsP init (k + 1) = (if k < 18 then (tmsP init k).made (chW k (wordsP init[k])) else tmsP init k) ∧ chgP init (k + 1) = chgP init k ++ (if k < 18 then [] else [chW k (wordsP init[k])]) := by
 have hf : (10 : UInt8) ∉ init[k] := H.free _ (List.mem_append_left _ (List.getElem_mem hk))
 have e : (lineX k (mkS (init[k] ++ [10]))).1 = chW k (wordsP init[k]) := by rw [lineX_piece k _ hf, (okW_good ho).2]
 unfold tmsP chgP
 rw [List.take_succ_eq_append_getElem hk, List.map_append, List.map_cons, List.map_nil]
 have hl : ((init.take k).map fun p => mkS (p ++ [10])).length = k := by rw [List.length_map, List.length_take]; omega
 rw [pT_snoc, pL_snoc, hl, Nat.zero_add, e]
 exact ⟨rfl, rfl⟩
theorem parse_bad {s : Str} {init : List (List UInt8)} {last : List UInt8} (H : CutS s init last) (hs : ¬ 4096 < s.size) (k : Nat) (hk : k < init.length) (hall : ∀ j (hj : j < k), okW j (wordsP (init[j]'(by omega))) = true) (hb : okW k (wordsP init[k]) = false) :
 parseR s = ⟨.zero, [], k, 25⟩ := by
 have hspl : init = init.take k ++ init[k] :: init.drop (k + 1) := by rw [← List.drop_eq_getElem_cons hk, List.take_append_drop]
 have hl : ((init.take k).map fun p => mkS (p ++ [10])).length = k := by rw [List.length_map, List.length_take]; omega
 have hfree : ∀ j (hj : j < init.length), (10 : UInt8) ∉ init[j] := fun j hj => H.free _ (List.mem_append_left _ (List.getElem_mem hj))
 have hfb : firstBad 0 (linesOf s) = some k := by
  rw [H.lines]
  conv => lhs; rw [hspl]
  rw [List.map_append, List.map_cons, List.append_assoc, List.cons_append]
  have := firstBad_at (ls := (init.take k).map fun p => mkS (p ++ [10])) (x := mkS (init[k] ++ [10])) (r := ((init.drop (k + 1)).map fun p => mkS (p ++ [10])) ++ (if last = [] then [] else [mkS last])) (i := 0) (fun j y hy => by
   rw [List.getElem?_map] at hy
   have hjk : j < k := by
    rcases Nat.lt_or_ge j k with h | h
    ·
     exact h
    ·
     rw [List.getElem?_eq_none (by rw [List.length_take]; omega)] at hy; cases hy
   rw [List.getElem?_take_of_lt hjk, List.getElem?_eq_getElem (by omega)] at hy
   simp only [Option.map_some, Option.some.injEq] at hy
   rw [Nat.zero_add, ← hy, lineBad_piece _ _ (hfree j (by omega)), hall j hjk]; rfl) (by rw [hl, Nat.zero_add, lineBad_piece _ _ (hfree k hk), hb]; rfl)
  rw [this, hl, Nat.zero_add]
 unfold parseR
 rw [if_neg hs]
 unfold parseLs
 rw [hfb]
theorem parse_good {s : Str} {init : List (List UInt8)} {last : List UInt8} (H : CutS s init last) (hs : ¬ 4096 < s.size) (hall : ∀ j (hj : j < init.length), okW j (wordsP init[j]) = true) :
 (last ≠ [] → parseR s = ⟨.zero, [], init.length, 25⟩) ∧ (last = [] → parseR s = if init.length < 18 then ⟨.zero, [], init.length, 28⟩ else if checkChanges (tmsP init init.length) (chgP init init.length) ≠ 0 then ⟨.zero, [], 0, checkChanges (tmsP init init.length) (chgP init init.length)⟩ else ⟨tmsP init init.length, chgP init init.length, 0, 0⟩) := by
 have hfree : ∀ j (hj : j < init.length), (10 : UInt8) ∉ init[j] := fun j hj => H.free _ (List.mem_append_left _ (List.getElem_mem hj))
 have hok : ∀ j y, (init.map fun p => mkS (p ++ [10]))[j]? = some y → lineBad (0 + j) y = false := fun j y hy => by
  rw [List.getElem?_map] at hy
  have hj : j < init.length := by
   rcases Nat.lt_or_ge j init.length with h | h
   ·
    exact h
   ·
    rw [List.getElem?_eq_none h] at hy; cases hy
  rw [List.getElem?_eq_getElem hj] at hy
  simp only [Option.map_some, Option.some.injEq] at hy
  rw [Nat.zero_add, ← hy, lineBad_piece _ _ (hfree j hj), hall j hj]; rfl
 constructor
 ·
  intro hl
  have hfb : firstBad 0 (linesOf s) = some init.length := by
   rw [H.lines, if_neg hl]
   have := firstBad_at (x := mkS last) (r := []) hok (lineBad_torn _ _ (H.free last (by simp)))
   rw [this, List.length_map, Nat.zero_add]
  unfold parseR
  rw [if_neg hs]
  unfold parseLs
  rw [hfb]
 ·
  intro hl
  have hls : linesOf s = init.map fun p => mkS (p ++ [10]) := by rw [H.lines, if_pos hl, List.append_nil]
  unfold parseR
  rw [if_neg hs]
  unfold parseLs
  rw [hls, firstBad_none hok]
  simp only [List.length_map]
  unfold tmsP chgP
  rw [List.take_length]
end L
end Go.Proofs.YtmagppkclnebjaaGreatDoor
