/- What is printed is parsed again, and what is parsed is printed as it was: the plain law, line by line; no program stands here. -/
import Derived.Test.YtmagppkclnebjaaGreatDoorQ0
import Derived.KernelRfl
import Derived.Lib.Join
set_option linter.unusedVariables false
set_option linter.unusedSimpArgs false
set_option linter.unusedSimpArgs false
set_option linter.unusedVariables false
namespace Go.Proofs.YtmagppkclnebjaaGreatDoor
namespace L

/-! ### cutting at a byte, and joining -/
theorem cutC_app (c : UInt8) (keep : Bool) (rest : List UInt8) : ∀ (w : List UInt8), c ∉ w → ∀ h t, cutC c keep rest = h :: t → cutC c keep (w ++ rest) = (w ++ h) :: t
 | [], _, h, t, e => e
 | b :: w, hc, h, t, e => by
  have hb : b ≠ c := fun x => hc (by simp [x])
  have := cutC_app c keep rest w (fun x => hc (List.mem_cons_of_mem _ x)) h t e
  simp only [List.cons_append, cutC, if_neg hb, this]
theorem cutC_one (c : UInt8) (keep : Bool) (w : List UInt8) (hc : c ∉ w) : cutC c keep w = [w] := by
 have := cutC_app c keep [] w hc [] [] rfl
 simpa using this
theorem cutC_sep (c : UInt8) (keep : Bool) (w rest : List UInt8) (hc : c ∉ w) : cutC c keep (w ++ c :: rest) = (if keep then w ++ [c] else w) :: cutC c keep rest := by
 have h1 : cutC c keep (c :: rest) = (if keep then [c] else []) :: cutC c keep rest := by simp only [cutC, if_true]
 rw [cutC_app c keep (c :: rest) w hc _ _ h1]
 cases keep <;> simp
theorem join_cc (x y : List UInt8) (r : List (List UInt8)) (sep : List UInt8) : Go.Lib.join (x :: y :: r) sep = x ++ sep ++ Go.Lib.join (y :: r) sep := by
 rw [Go.Lib.join_cons, Go.Lib.join_cons]; simp [Go.Lib.joinTail]
theorem cutC_join (c : UInt8) : ∀ (r : List (List UInt8)) (x : List UInt8), (∀ w ∈ x :: r, c ∉ w) → cutC c false (Go.Lib.join (x :: r) [c]) = x :: r
 | [], x, h => by rw [Go.Lib.join_one]; exact cutC_one c false x (h x (by simp))
 | y :: r, x, h => by
  rw [join_cc, List.append_assoc, List.singleton_append, cutC_sep c false x _ (h x (by simp)), cutC_join c r y (fun w hw => h w (List.mem_cons_of_mem _ hw))]; rfl
theorem cutC_joinW (c : UInt8) (ws : List (List UInt8)) (h0 : ws ≠ []) (h : ∀ w ∈ ws, c ∉ w) : cutC c false (Go.Lib.join ws [c]) = ws := by
 cases ws with
 | nil => exact absurd rfl h0
 | cons x r => exact cutC_join c r x h
theorem join_cutC (c : UInt8) : ∀ l : List UInt8, Go.Lib.join (cutC c false l) [c] = l
 | [] => rfl
 | b :: l => by
  obtain ⟨h, t, e⟩ := cutC_ne c false l
  have ih := join_cutC c l
  rw [e] at ih
  by_cases hb : b = c
  ·
   subst hb
   have e2 : cutC b false (b :: l) = [] :: h :: t := by simp [cutC, e]
   rw [e2, join_cc, ih]; rfl
  ·
   have e2 : cutC c false (b :: l) = (b :: h) :: t := by simp [cutC, e, hb]
   rw [e2]
   rw [Go.Lib.join_cons] at ih ⊢
   rw [List.cons_append, ih]
theorem flat_cutC (c : UInt8) : ∀ l : List UInt8, (cutC c true l).flatten = l
 | [] => rfl
 | b :: l => by
  obtain ⟨h, t, e⟩ := cutC_ne c true l
  have ih := flat_cutC c l
  rw [e] at ih
  by_cases hb : b = c
  ·
   subst hb
   have e2 : cutC b true (b :: l) = [b] :: h :: t := by simp [cutC, e]
   rw [e2, List.flatten_cons, ih]; rfl
  ·
   have e2 : cutC c true (b :: l) = (b :: h) :: t := by simp [cutC, e, hb]
   rw [e2, List.flatten_cons, List.cons_append, ← List.flatten_cons, ih]
theorem cutC_lines (c : UInt8) (rest : List UInt8) : ∀ bs : List (List UInt8), (∀ b ∈ bs, c ∉ b) → cutC c true ((bs.map (· ++ [c])).flatten ++ rest) = bs.map (· ++ [c]) ++ cutC c true rest
 | [], _ => rfl
 | b :: r, h => by
  have ih := cutC_lines c rest r (fun x hx => h x (List.mem_cons_of_mem _ hx))
  have e : ((b :: r).map (· ++ [c])).flatten ++ rest = b ++ c :: ((r.map (· ++ [c])).flatten ++ rest) := by simp
  rw [e, cutC_sep c true b _ (h b (by simp)), ih]
  simp

/-! ### the lines of a text -/
def mkS (l : List UInt8) : Str := ⟨l.toArray⟩
theorem mkS_data (l : List UInt8) : (mkS l).data.toList = l := by simp [mkS]
theorem mkS_of (s : Str) : mkS s.data.toList = s := mk_data s
theorem str_ext {a b : Str} (h : a.data.toList = b.data.toList) : a = b := by rw [← mkS_of a, ← mkS_of b, h]
theorem mkS_inj {a b : List UInt8} (h : mkS a = mkS b) : a = b := by rw [← mkS_data a, ← mkS_data b, h]
theorem mkS_empty {l : List UInt8} : mkS l = .empty ↔ l = [] := ⟨fun h => mkS_inj (h.trans (by rfl : (.empty : Str) = mkS [])), fun h => by rw [h]; rfl⟩
/-- a line of words -/
def lineD (ws : List Str) : List UInt8 := Go.Lib.join (ws.map (·.data.toList)) [32] ++ [10]
theorem linesOf_flat (s : Str) : ((linesOf s).map (·.data.toList)).flatten = s.data.toList := by
 have h := flat_cutC 10 s.data.toList
 have e : (linesK s).map (·.data.toList) = cutC 10 true s.data.toList := by
  unfold linesK
  rw [List.map_map]
  conv => rhs; rw [← List.map_id (cutC 10 true s.data.toList)]
  exact List.map_congr_left fun a _ => by simp
 rw [← e] at h
 unfold linesOf
 split
 ·
  rename_i hl
  obtain ⟨init, e2⟩ : ∃ init, linesK s = init ++ [.empty] := by
   rw [List.getLast?_eq_some_iff] at hl
   exact hl
  rw [e2] at h ⊢
  rw [List.dropLast_concat]
  simpa using h
 ·
  exact h
/-- the lines of a text whose lines all end -/
theorem linesOf_whole (bs : List (List UInt8)) (h : ∀ b ∈ bs, (10 : UInt8) ∉ b) (s : Str) (hs : s.data.toList = (bs.map (· ++ [10])).flatten) : linesOf s = bs.map fun b => mkS (b ++ [10]) := by
 have e : linesK s = (bs.map fun b => mkS (b ++ [10])) ++ [.empty] := by
  unfold linesK
  have := cutC_lines 10 [] bs h
  rw [List.append_nil] at this
  rw [hs, this, List.map_append, List.map_map]
  rfl
 unfold linesOf
 rw [e, if_pos (by simp), List.dropLast_concat]
/-- .. whose last line does not -/
theorem linesOf_torn (bs : List (List UInt8)) (b : List UInt8) (h : ∀ b ∈ bs, (10 : UInt8) ∉ b) (hb : (10 : UInt8) ∉ b) (hb0 : b ≠ []) (s : Str) (hs : s.data.toList = (bs.map (· ++ [10])).flatten ++ b) : linesOf s = (bs.map fun b => mkS (b ++ [10])) ++ [mkS b] := by
 have e : linesK s = (bs.map fun b => mkS (b ++ [10])) ++ [mkS b] := by
  unfold linesK
  rw [hs, cutC_lines 10 b bs h, cutC_one 10 true b hb, List.map_append, List.map_map]
  rfl
 unfold linesOf
 rw [e, if_neg (by rw [List.getLast?_concat]; intro x; exact hb0 (mkS_empty.1 (Option.some.inj x)))]

/-! ### words and numbers -/
/-- a word that a line may hold -/
def plainW (s : Str) : Bool := decide (s ≠ .empty) && s.data.toList.all fun b => b != 32 && b != 10
def plainN (n : Nat) : Bool := plainW (decS n) && numOk (decS n) && decide (atoiV (decS n) = n)
theorem plainN_all : (List.range 257).all plainN = true := by kernel_rfl
theorem plainN_of {n : Int} (h0 : 0 ≤ n) (h : n ≤ 256) : plainW (decS n) = true ∧ numOk (decS n) = true ∧ atoiV (decS n) = n := by
 obtain ⟨k, rfl⟩ : ∃ k : Nat, n = k := ⟨n.toNat, by omega⟩
 have := List.all_eq_true.1 plainN_all k (List.mem_range.2 (by omega))
 unfold plainN at this
 simp only [Bool.and_eq_true, decide_eq_true_eq] at this
 exact ⟨this.1.1, this.1.2, this.2⟩
theorem plainW_ne {s : Str} (h : plainW s = true) : s ≠ .empty := by
 unfold plainW at h
 simp only [Bool.and_eq_true, decide_eq_true_eq] at h
 exact h.1
theorem plainW_free {s : Str} (h : plainW s = true) : (32 : UInt8) ∉ s.data.toList ∧ (10 : UInt8) ∉ s.data.toList := by
 unfold plainW at h
 simp only [Bool.and_eq_true, decide_eq_true_eq, List.all_eq_true] at h
 constructor
 ·
  intro hm; have := (h.2 _ hm).1; simp at this
 ·
  intro hm; have := (h.2 _ hm).2; simp at this
theorem nameChar_free : nameChar 32 = false ∧ nameChar 10 = false := by decide
theorem plainW_name {s : Str} (h : isName s = true) : plainW s = true := by
 unfold isName isNameL at h
 simp only [Bool.and_eq_true, decide_eq_true_eq, List.all_eq_true] at h
 obtain ⟨⟨⟨h1, _⟩, _⟩, h4⟩ := h
 unfold plainW
 simp only [Bool.and_eq_true, decide_eq_true_eq, List.all_eq_true]
 refine ⟨fun e => by rw [e] at h1; exact absurd h1 (by decide), fun b hb => ?_⟩
 have := h4 b hb
 constructor
 ·
  simp only [bne_iff_ne, ne_eq]; rintro rfl; rw [nameChar_free.1] at this; cases this
 ·
  simp only [bne_iff_ne, ne_eq]; rintro rfl; rw [nameChar_free.2] at this; cases this
theorem plainW_at : plainW atW = true := by kernel_rfl

theorem lineD_body (ws : List Str) : wholeOf (mkS (lineD ws)) = true ∧ (bodyOf (mkS (lineD ws))).data.toList = Go.Lib.join (ws.map (·.data.toList)) [32] := by
 have hsuf : Go.Lib.hasSuffix (lineD ws) [10] = true := by
  unfold Go.Lib.hasSuffix lineD
  rw [List.isSuffixOf_iff_suffix]
  exact ⟨_, rfl⟩
 constructor
 ·
  unfold wholeOf; rw [mkS_data]; exact hsuf
 ·
  unfold bodyOf
  rw [mkS_data, Go.Lib.trimSuffix, if_pos hsuf]
  simp [lineD]
theorem rdrOf_line (w : Str) (r : List Str) (h : ∀ s ∈ w :: r, plainW s = true) : rdrOf (mkS (lineD (w :: r))) = ⟨w :: r, false⟩ := by
 obtain ⟨h1, h2⟩ := lineD_body (w :: r)
 unfold rdrOf wordsOf
 rw [h1, h2, cutC_joinW 32 _ (by simp) (fun x hx => by
  obtain ⟨s, hs, rfl⟩ := List.mem_map.1 hx
  exact (plainW_free (h s hs)).1), List.map_map]
 have : ((w :: r).map ((fun l => (⟨l.toArray⟩ : Str)) ∘ fun s => s.data.toList)) = w :: r := by
  conv => rhs; rw [← List.map_id (w :: r)]
  exact List.map_congr_left fun a _ => mk_data a
 rw [this]; rfl
theorem lineD_free10 : ∀ (r : List Str) (w : Str), (∀ s ∈ w :: r, plainW s = true) → (10 : UInt8) ∉ Go.Lib.join ((w :: r).map (·.data.toList)) [32]
 | [], w, h => by simpa [Go.Lib.join_one] using (plainW_free (h w (by simp))).2
 | y :: r, w, h => by
  have ih := lineD_free10 r y (fun s hs => h s (List.mem_cons_of_mem _ hs))
  rw [List.map_cons] at ih ⊢
  rw [List.map_cons, join_cc]
  have h1 := (plainW_free (h w (by simp))).2
  simp only [List.mem_append, List.mem_singleton, not_or]
  exact ⟨⟨h1, by decide⟩, ih⟩
theorem lineD_free (w : Str) (r : List Str) (h : ∀ s ∈ w :: r, plainW s = true) : (10 : UInt8) ∉ Go.Lib.join ((w :: r).map (·.data.toList)) [32] ∧ Go.Lib.join ((w :: r).map (·.data.toList)) [32] ≠ [] := by
 refine ⟨lineD_free10 r w h, fun e => ?_⟩
 rw [List.map_cons, Go.Lib.join_cons] at e
 have := (List.append_eq_nil_iff.1 e).1
 exact plainW_ne (h w (by simp)) (str_ext this)

theorem word_ok {s : Str} (h : plainW s = true) (r : List Str) (b : Bool) : Rdr.word ⟨s :: r, b⟩ = (s, ⟨r, b⟩) := by
 unfold Rdr.word
 simp only [if_neg (plainW_ne h)]
theorem int_ok {n : Int} (h0 : 0 ≤ n) (h : n ≤ 256) (r : List Str) (b : Bool) : Rdr.int ⟨decS n :: r, b⟩ = (n, ⟨r, b⟩) := by
 obtain ⟨h1, h2, h3⟩ := plainN_of h0 h
 unfold Rdr.int
 rw [word_ok h1]
 simp [h2, h3]
theorem at_ok (r : List Str) (b : Bool) : Rdr.at_ ⟨atW :: r, b⟩ = ⟨r, b⟩ := by
 unfold Rdr.at_
 rw [word_ok plainW_at]
 simp
/-- the words of a slot, of a change -/
def slotW (a b : Int) (n : Str) (q : Int) : List Str := [decS a, decS b, n, decS q]
def chgW (d : Chg) : List Str := [atW, decS d.play, decS d.side, decS d.slot, d.name, decS d.pos]
/-- numbers and names that a line can say -/
structure OkL (d : Chg) : Prop where
 side : 0 ≤ d.side ∧ d.side ≤ 256
 play : 0 ≤ d.play ∧ d.play ≤ 256
 slot : 0 ≤ d.slot ∧ d.slot ≤ 256
 pos : 0 ≤ d.pos ∧ d.pos ≤ 256
 name : plainW d.name = true
theorem slotW_plain {d : Chg} (h : OkL d) : ∀ s ∈ slotW d.side d.slot d.name d.pos, plainW s = true := by
 intro s hs
 simp only [slotW, List.mem_cons, List.not_mem_nil, or_false] at hs
 rcases hs with rfl | rfl | rfl | rfl
 ·
  exact (plainN_of h.side.1 h.side.2).1
 ·
  exact (plainN_of h.slot.1 h.slot.2).1
 ·
  exact h.name
 ·
  exact (plainN_of h.pos.1 h.pos.2).1
theorem chgW_plain {d : Chg} (h : OkL d) : ∀ s ∈ chgW d, plainW s = true := by
 intro s hs
 simp only [chgW, List.mem_cons, List.not_mem_nil, or_false] at hs
 rcases hs with rfl | rfl | rfl | rfl | rfl | rfl
 ·
  exact plainW_at
 ·
  exact (plainN_of h.play.1 h.play.2).1
 ·
  exact (plainN_of h.side.1 h.side.2).1
 ·
  exact (plainN_of h.slot.1 h.slot.2).1
 ·
  exact h.name
 ·
  exact (plainN_of h.pos.1 h.pos.2).1
theorem lineX_slot {d : Chg} (h : OkL d) (hp : d.play = 0) {i : Nat} (hi : i < 18) : lineX i (mkS (lineD (slotW d.side d.slot d.name d.pos))) = (d, ⟨[], false⟩) := by
 unfold lineX
 rw [slotW, rdrOf_line _ _ (slotW_plain h)]
 unfold lineC
 rw [if_neg (by omega)]
 simp only [int_ok h.side.1 h.side.2, int_ok h.slot.1 h.slot.2, word_ok h.name, int_ok h.pos.1 h.pos.2]
 obtain ⟨a, b, c, e, f⟩ := d
 simp only at hp ⊢
 rw [hp]
theorem lineX_chg {d : Chg} (h : OkL d) {i : Nat} (hi : 18 ≤ i) : lineX i (mkS (lineD (chgW d))) = (d, ⟨[], false⟩) := by
 unfold lineX
 rw [chgW, rdrOf_line _ _ (chgW_plain h)]
 unfold lineC
 rw [if_pos hi]
 simp only [at_ok, int_ok h.play.1 h.play.2, int_ok h.side.1 h.side.2, int_ok h.slot.1 h.slot.2, word_ok h.name, int_ok h.pos.1 h.pos.2]

/-! ### the way back -/
theorem word_inv {r r' : Rdr} {a : Str} (h : r.word = (a, r')) (hb : r'.bad = false) : r.ws = a :: r'.ws ∧ r.bad = false := by
 obtain ⟨ws, b⟩ := r
 unfold Rdr.word at h
 cases ws with
 | nil => simp only [Prod.mk.injEq] at h; rw [← h.2] at hb; cases hb
 | cons w q =>
  simp only at h
  split at h
  ·
   simp only [Prod.mk.injEq] at h; rw [← h.2] at hb; cases hb
  ·
   simp only [Prod.mk.injEq] at h; obtain ⟨rfl, rfl⟩ := h; exact ⟨rfl, hb⟩
theorem numOk_inv {s : Str} (h : numOk s = true) : s = decS (atoiV s) := by
 unfold numOk at h
 unfold atoiV
 split at h
 ·
  rename_i v e
  simp only [Bool.and_eq_true, decide_eq_true_eq] at h
  rw [e]
  exact h.2.symm
 ·
  cases h
theorem int_inv {r r' : Rdr} {a : Int} (h : r.int = (a, r')) (hb : r'.bad = false) : r.ws = decS a :: r'.ws ∧ r.bad = false := by
 unfold Rdr.int at h
 simp only [Prod.mk.injEq] at h
 obtain ⟨h1, h2⟩ := h
 rw [← h2] at hb
 simp only [Bool.or_eq_false_iff, Bool.not_eq_false'] at hb
 have := word_inv (r := r) (a := r.word.1) (r' := r.word.2) rfl hb.1
 rw [← h1, ← h2, ← numOk_inv hb.2]
 exact this
theorem at_inv {r : Rdr} (hb : r.at_.bad = false) : r.ws = atW :: r.at_.ws ∧ r.bad = false := by
 unfold Rdr.at_ at hb
 simp only [Bool.or_eq_false_iff, Bool.not_eq_false', decide_eq_true_eq] at hb
 have := word_inv (r := r) (a := r.word.1) (r' := r.word.2) rfl hb.2
 rw [hb.1] at this
 exact this
theorem whole_inv {s : Str} (h : wholeOf s = true) : s.data.toList = (bodyOf s).data.toList ++ [10] := by
 unfold wholeOf at h
 unfold bodyOf
 rw [Go.Lib.trimSuffix, if_pos h]
 unfold Go.Lib.hasSuffix at h
 rw [List.isSuffixOf_iff_suffix] at h
 obtain ⟨p, hp⟩ := h
 rw [← hp]; simp
theorem words_inv {s : Str} {ws : List Str} (h : wordsOf s = ws) : s.data.toList = Go.Lib.join (ws.map (·.data.toList)) [32] := by
 rw [← h]
 unfold wordsOf
 rw [List.map_map]
 have e : (cutC 32 false s.data.toList).map ((fun s : Str => s.data.toList) ∘ fun l => (⟨l.toArray⟩ : Str)) = cutC 32 false s.data.toList := by
  conv => rhs; rw [← List.map_id (cutC 32 false s.data.toList)]
  exact List.map_congr_left fun a _ => by simp
 rw [e, join_cutC]
theorem line_inv {s : Str} {ws : List Str} (h : (rdrOf s).ws = ws) (hb : (rdrOf s).bad = false) : s = mkS (lineD ws) := by
 unfold rdrOf at h hb
 simp only [Bool.not_eq_false'] at hb
 apply str_ext
 rw [mkS_data, whole_inv hb, words_inv h]; rfl
theorem lineC_parts {i : Nat} {r r1 r2 r3 r4 r5 : Rdr} {play side slot pos : Int} {name : Str} (hp : (if 18 ≤ i then r.at_.int else (0, r)) = (play, r1)) (ha : r1.int = (side, r2)) (hb : r2.int = (slot, r3)) (hn : r3.word = (name, r4)) (hq : r4.int = (pos, r5)) :
 lineC i r = (⟨side, play, slot, name, pos⟩, r5) := by
 unfold lineC
 simp only [hp, ha, hb, hn, hq]
theorem lineC_chain (i : Nat) (r : Rdr) : ∃ r1 r2 r3 r4 r5 play side slot pos name, (if 18 ≤ i then r.at_.int else (0, r)) = (play, r1) ∧ r1.int = (side, r2) ∧ r2.int = (slot, r3) ∧ r3.word = (name, r4) ∧ r4.int = (pos, r5) ∧ lineC i r = (⟨side, play, slot, name, pos⟩, r5) := by
 obtain ⟨⟨play, r1⟩, hp⟩ : ∃ p, (if 18 ≤ i then r.at_.int else (0, r)) = p := ⟨_, rfl⟩
 obtain ⟨⟨side, r2⟩, ha⟩ : ∃ p, r1.int = p := ⟨_, rfl⟩
 obtain ⟨⟨slot, r3⟩, hb⟩ : ∃ p, r2.int = p := ⟨_, rfl⟩
 obtain ⟨⟨name, r4⟩, hn⟩ : ∃ p, r3.word = p := ⟨_, rfl⟩
 obtain ⟨⟨pos, r5⟩, hq⟩ : ∃ p, r4.int = p := ⟨_, rfl⟩
 exact ⟨r1, r2, r3, r4, r5, play, side, slot, pos, name, hp, ha, hb, hn, hq, lineC_parts hp ha hb hn hq⟩
/-- a line that is not bad is the line of its words -/
theorem lineX_inv {i : Nat} {s : Str} (hb : (lineX i s).2.bad = false) (hw : (lineX i s).2.ws.length = 0) :
 (i < 18 → (lineX i s).1.play = 0 ∧ s = mkS (lineD (slotW (lineX i s).1.side (lineX i s).1.slot (lineX i s).1.name (lineX i s).1.pos))) ∧ (18 ≤ i → s = mkS (lineD (chgW (lineX i s).1))) := by
 obtain ⟨r1, r2, r3, r4, r5, play, side, slot, pos, name, hp, ha, hb2, hn, hq, e⟩ := lineC_chain i (rdrOf s)
 have e2 : lineX i s = (⟨side, play, slot, name, pos⟩, r5) := e
 rw [e2] at hb hw ⊢
 simp only at hb hw ⊢
 have hw0 : r5.ws = [] := List.length_eq_zero_iff.1 hw
 obtain ⟨w5, b5⟩ := int_inv hq hb
 obtain ⟨w4, b4⟩ := word_inv hn b5
 obtain ⟨w3, b3⟩ := int_inv hb2 b4
 obtain ⟨w2, b2⟩ := int_inv ha b3
 rw [hw0] at w5
 rw [w5] at w4; rw [w4] at w3; rw [w3] at w2
 constructor
 ·
  intro hi
  rw [if_neg (by omega)] at hp
  simp only [Prod.mk.injEq] at hp
  obtain ⟨rfl, hr⟩ := hp
  rw [← hr] at w2 b2
  exact ⟨rfl, line_inv w2 b2⟩
 ·
  intro hi
  rw [if_pos hi] at hp
  obtain ⟨w1, b1⟩ := int_inv hp b2
  obtain ⟨w0, b0⟩ := at_inv b1
  rw [w2] at w1; rw [w1] at w0
  exact line_inv w0 b0
/-- a line that does not end is bad -/
theorem lineX_torn {i : Nat} {s : Str} (h : wholeOf s = false) : (lineX i s).2.bad = true := by
 obtain ⟨r1, r2, r3, r4, r5, play, side, slot, pos, name, hp, ha, hb2, hn, hq, e⟩ := lineC_chain i (rdrOf s)
 have e2 : lineX i s = (⟨side, play, slot, name, pos⟩, r5) := e
 rw [e2]
 show r5.bad = true
 cases hb : r5.bad with
 | true => rfl
 | false =>
  exfalso
  have hr : (rdrOf s).bad = true := by unfold rdrOf; simp [h]
  have b2 := (int_inv ha (int_inv hb2 (word_inv hn (int_inv hq hb).2).2).2).2
  split at hp
  ·
   have := (at_inv (int_inv hp b2).2).2
   rw [hr] at this; cases this
  ·
   simp only [Prod.mk.injEq] at hp
   rw [hp.2, b2] at hr; cases hr

/-! ### the teams of eighteen lines -/
def c18 (N : Nat → Str) (Q : Nat → Int) (k : Nat) : Chg := ⟨(k / 9 : Nat), 0, ((k % 9 : Nat) : Int) + 1, N k, Q k⟩
def t18 (N : Nat → Str) (Q : Nat → Int) : Tms := ⟨⟨(List.range 9).map N, (List.range 9).map Q⟩, ⟨(List.range 9).map fun k => N (9 + k), (List.range 9).map fun k => Q (9 + k)⟩⟩
theorem fold18 (N : Nat → Str) (Q : Nat → Int) : ((List.range 18).map (c18 N Q)).foldl Tms.made .zero = t18 N Q := by kernel_rfl
theorem getD_range {α : Type} (f : Nat → α) (d : α) (n k : Nat) (h : k < n) : ((List.range n).map f).getD k d = f k := by
 simp [List.getD_eq_getElem?_getD, h]
theorem t18_at (N : Nat → Str) (Q : Nat → Int) (k : Nat) (h : k < 18) : ((t18 N Q).get (k / 9 : Nat)).bat (((k % 9 : Nat) : Int) + 1) = N k ∧ ((t18 N Q).get (k / 9 : Nat)).at_ (((k % 9 : Nat) : Int) + 1) = Q k := by
 have e : ((((k % 9 : Nat) : Int) + 1) - 1).toNat = k % 9 := by omega
 unfold LU.bat LU.at_ Tms.get
 rw [e]
 by_cases h9 : k < 9
 ·
  have e0 : ((k / 9 : Nat) : Int) = 0 := by omega
  have e1 : k % 9 = k := by omega
  rw [if_pos e0, e1]
  exact ⟨getD_range _ _ 9 k h9, getD_range _ _ 9 k h9⟩
 ·
  have e0 : ¬ ((k / 9 : Nat) : Int) = 0 := by omega
  rw [if_neg e0]
  unfold t18
  simp only
  rw [getD_range _ _ 9 _ (by omega), getD_range _ _ 9 _ (by omega)]
  have e1 : 9 + k % 9 = k := by omega
  rw [e1]
  exact ⟨rfl, rfl⟩
theorem map_getD {α : Type} (d : α) (l : List α) (n : Nat) (h : l.length = n) : (List.range n).map (fun k => l.getD k d) = l := by
 subst h
 apply List.ext_getElem (by simp)
 intro i h1 h2
 simp [List.getD_eq_getElem?_getD, List.getElem?_eq_getElem h2]
theorem t18_of (t : Tms) (ht : t.ok) : t18 (fun k => (t.get (k / 9 : Nat)).bat (((k % 9 : Nat) : Int) + 1)) (fun k => (t.get (k / 9 : Nat)).at_ (((k % 9 : Nat) : Int) + 1)) = t := by
 have e : ∀ k : Nat, ((((k % 9 : Nat) : Int) + 1) - 1).toNat = k % 9 := fun k => by omega
 have e0 : ∀ k : Nat, k < 9 → ((k / 9 : Nat) : Int) = 0 := fun k h => by omega
 have e1 : ∀ k : Nat, k < 9 → ¬ (((9 + k) / 9 : Nat) : Int) = 0 := fun k h => by omega
 obtain ⟨⟨b0, p0⟩, ⟨b1, p1⟩⟩ := t
 obtain ⟨⟨hb0, hp0⟩, ⟨hb1, hp1⟩⟩ := ht
 simp only at hb0 hp0 hb1 hp1
 unfold t18 Tms.get LU.bat LU.at_
 simp only [e]
 have A : ∀ (α : Type) (d : α) (l m : List α), l.length = 9 → (List.range 9).map (fun k => (if ((k / 9 : Nat) : Int) = 0 then l else m).getD (k % 9) d) = l := fun α d l m h => by
  conv => rhs; rw [← map_getD d l 9 h]
  refine List.map_congr_left fun k hk => ?_
  have hk := List.mem_range.1 hk
  rw [if_pos (e0 k hk), Nat.mod_eq_of_lt hk]
 have B : ∀ (α : Type) (d : α) (l m : List α), m.length = 9 → (List.range 9).map (fun k => (if (((9 + k) / 9 : Nat) : Int) = 0 then l else m).getD ((9 + k) % 9) d) = m := fun α d l m h => by
  conv => rhs; rw [← map_getD d m 9 h]
  refine List.map_congr_left fun k hk => ?_
  have hk := List.mem_range.1 hk
  rw [if_neg (e1 k hk), show (9 + k) % 9 = k by omega]
 have A1 := A Str .empty b0 b1 hb0
 have A2 := A Int 0 p0 p1 hp0
 have B1 := B Str .empty b0 b1 hb1
 have B2 := B Int 0 p0 p1 hp1
 have X : ∀ (c : Prop) [Decidable c], (if c then (⟨b0, p0⟩ : LU) else ⟨b1, p1⟩).b = if c then b0 else b1 := fun c _ => by split <;> rfl
 have Y : ∀ (c : Prop) [Decidable c], (if c then (⟨b0, p0⟩ : LU) else ⟨b1, p1⟩).p = if c then p0 else p1 := fun c _ => by split <;> rfl
 simp only [X, Y]
 rw [A1, A2, B1, B2]

/-! ### the parser over a list of lines -/
theorem firstBad_none : ∀ {ls : List Str} {i : Nat}, (∀ k x, ls[k]? = some x → lineBad (i + k) x = false) → firstBad i ls = none
 | [], _, _ => rfl
 | x :: r, i, h => by
  unfold firstBad
  have h0 := h 0 x rfl
  rw [Nat.add_zero] at h0
  rw [if_neg (by rw [h0]; simp)]
  exact firstBad_none (i := i + 1) (fun k y hy => by rw [Nat.add_assoc, Nat.add_comm 1]; exact h (k + 1) y hy)
theorem firstBad_inv : ∀ {ls : List Str} {i : Nat}, firstBad i ls = none → ∀ k x, ls[k]? = some x → lineBad (i + k) x = false
 | [], _, _, k, x, hx => by cases hx
 | y :: r, i, h, k, x, hx => by
  unfold firstBad at h
  split at h
  ·
   cases h
  ·
   rename_i hn
   cases k with
   | zero => simp at hx; subst hx; simpa using hn
   | succ k =>
    have := firstBad_inv (i := i + 1) h k x hx
    rw [Nat.add_assoc, Nat.add_comm 1] at this; exact this
theorem firstBad_last {x : Str} : ∀ {ls : List Str} {i : Nat}, firstBad i ls = none → lineBad (i + ls.length) x = true → firstBad i (ls ++ [x]) = some (i + ls.length)
 | [], i, _, h => by simp only [List.nil_append, firstBad]; rw [List.length_nil, Nat.add_zero] at h; rw [if_pos h]; rfl
 | y :: r, i, h0, h => by
  unfold firstBad at h0
  split at h0
  ·
   cases h0
  ·
   rename_i hn
   rw [List.cons_append, firstBad, if_neg hn]
   have := firstBad_last (i := i + 1) h0 (by rw [List.length_cons, Nat.add_comm r.length, ← Nat.add_assoc] at h; exact h)
   rw [this, List.length_cons]; congr 1; omega
theorem pT_late : ∀ (ls : List Str) (i : Nat) (T : Tms), 18 ≤ i → pT i T ls = T
 | [], _, _, _ => rfl
 | x :: r, i, T, h => by unfold pT; rw [if_neg (by omega)]; exact pT_late r (i + 1) T (by omega)
theorem pT_append : ∀ (xs ys : List Str) (i : Nat) (T : Tms), pT i T (xs ++ ys) = pT (i + xs.length) (pT i T xs) ys
 | [], _, _, _ => rfl
 | x :: r, ys, i, T => by
  simp only [List.cons_append, pT, List.length_cons]
  rw [pT_append r ys (i + 1), Nat.add_assoc, Nat.add_comm 1]
theorem pL_append : ∀ (xs ys : List Str) (i : Nat), pL i (xs ++ ys) = pL i xs ++ pL (i + xs.length) ys
 | [], _, _ => rfl
 | x :: r, ys, i => by
  simp only [List.cons_append, pL, List.length_cons]
  rw [pL_append r ys (i + 1), List.append_assoc, Nat.add_assoc, Nat.add_comm 1]
theorem pT_fold : ∀ (xs : List Str) (i : Nat) (T : Tms) (f : Nat → Chg), i + xs.length ≤ 18 → (∀ k x, xs[k]? = some x → (lineX (i + k) x).1 = f (i + k)) → pT i T xs = ((List.range xs.length).map fun k => f (i + k)).foldl Tms.made T
 | [], _, _, _, _, _ => rfl
 | x :: r, i, T, f, hl, h => by
  rw [List.length_cons] at hl
  unfold pT
  rw [if_pos (by omega), List.length_cons, List.range_succ_eq_map, List.map_cons, List.foldl_cons]
  have h0 := h 0 x rfl
  rw [Nat.add_zero] at h0 ⊢
  rw [h0, pT_fold r (i + 1) (T.made (f i)) f (by omega) (fun k y hy => by rw [Nat.add_assoc, Nat.add_comm 1]; exact h (k + 1) y hy), List.map_map]
  congr 1
  exact List.map_congr_left fun k _ => by simp [Nat.add_assoc, Nat.add_comm 1]
theorem pL_early : ∀ (xs : List Str) (i : Nat), i + xs.length ≤ 18 → pL i xs = []
 | [], _, _ => rfl
 | x :: r, i, h => by
  rw [List.length_cons] at h
  unfold pL
  rw [if_pos (by omega), pL_early r (i + 1) (by omega)]; rfl
theorem pL_late (ys : List Str) : ∀ i, 18 ≤ i → pL i ys = (List.range ys.length).map fun k => (lineX (i + k) (ys.getD k .empty)).1 := by
 induction ys with
 | nil => intro i _; rfl
 | cons y r ih =>
  intro i h
  unfold pL
  rw [if_neg (by omega), ih (i + 1) (by omega), List.length_cons, List.range_succ_eq_map, List.map_cons, List.map_map]
  simp only [List.singleton_append, List.getD_cons_zero, Nat.add_zero]
  congr 1
  exact List.map_congr_left fun k _ => by simp [Nat.add_assoc, Nat.add_comm 1]
end L
end Go.Proofs.YtmagppkclnebjaaGreatDoor
