/- What is printed is parsed again, and what is parsed is printed as it was, and a text without its last byte is not parsed: the plain law of whole texts; no program stands here. -/
import Derived.Test.YtmagppkclnebjaaGreatDoorZ1
set_option linter.unusedVariables false
set_option linter.unusedSimpArgs false
set_option linter.unusedSimpArgs false
set_option linter.unusedVariables false
namespace Go.Proofs.YtmagppkclnebjaaGreatDoor
namespace L

def nOf (t : Tms) (k : Nat) : Str := (t.get (k / 9 : Nat)).bat (((k % 9 : Nat) : Int) + 1)
def qOf (t : Tms) (k : Nat) : Int := (t.get (k / 9 : Nat)).at_ (((k % 9 : Nat) : Int) + 1)
/-- the change that a slot's line says -/
def cOf (t : Tms) (k : Nat) : Chg := c18 (nOf t) (qOf t) k
def bodyW (ws : List Str) : List UInt8 := Go.Lib.join (ws.map (·.data.toList)) [32]
def slotB (d : Chg) : List UInt8 := bodyW (slotW d.side d.slot d.name d.pos)
def chgB (d : Chg) : List UInt8 := bodyW (chgW d)
def bodies (t : Tms) (l : List Chg) : List (List UInt8) := (List.range 18).map (fun k => slotB (cOf t k)) ++ l.map chgB
def printD (t : Tms) (l : List Chg) : List UInt8 := ((bodies t l).map (· ++ [10])).flatten
def linesP (t : Tms) (l : List Chg) : List Str := (bodies t l).map fun b => mkS (b ++ [10])
theorem linesP_eq (t : Tms) (l : List Chg) : linesP t l = (List.range 18).map (fun k => mkS (lineD (slotW (cOf t k).side (cOf t k).slot (cOf t k).name (cOf t k).pos))) ++ l.map fun d => mkS (lineD (chgW d)) := by
 unfold linesP bodies
 rw [List.map_append, List.map_map, List.map_map]; rfl
theorem linesP_flat (t : Tms) (l : List Chg) : ((linesP t l).map (·.data.toList)).flatten = printD t l := by
 unfold linesP printD
 rw [List.map_map]
 congr 1
 try exact List.map_congr_left fun b _ => mkS_data _
theorem linesP_len (t : Tms) (l : List Chg) : (linesP t l).length = 18 + l.length := by
 unfold linesP bodies; simp
theorem okL_slot {t : Tms} (ht : t.ok) (h : t.good) {k : Nat} (hk : k < 18) : OkL (cOf t k) := by
 have key : ∀ X : LU, X.ok → X.good → isName (X.bat (((k % 9 : Nat) : Int) + 1)) = true ∧ 1 ≤ X.at_ (((k % 9 : Nat) : Int) + 1) ∧ X.at_ (((k % 9 : Nat) : Int) + 1) ≤ 9 := fun X hX hG => by
  have hk9 : ((((k % 9 : Nat) : Int) + 1) - 1).toNat < 9 := by omega
  have e1 : X.bat (((k % 9 : Nat) : Int) + 1) ∈ X.b := by
   unfold LU.bat
   rw [List.getD_eq_getElem?_getD, List.getElem?_eq_getElem (by rw [hX.1]; exact hk9)]
   simp
  have e2 : X.at_ (((k % 9 : Nat) : Int) + 1) ∈ X.p := by
   unfold LU.at_
   rw [List.getD_eq_getElem?_getD, List.getElem?_eq_getElem (by rw [hX.2]; exact hk9)]
   simp
  exact ⟨hG.names _ e1, hG.range _ e2⟩
 have K : isName (nOf t k) = true ∧ 1 ≤ qOf t k ∧ qOf t k ≤ 9 := by
  unfold nOf qOf Tms.get
  split
  ·
   exact key t.l0 ht.1 h.g0
  ·
   exact key t.l1 ht.2 h.g1
 refine ⟨?_, ?_, ?_, ?_, plainW_name K.1⟩
 ·
  show 0 ≤ ((k / 9 : Nat) : Int) ∧ ((k / 9 : Nat) : Int) ≤ 256; omega
 ·
  show (0 : Int) ≤ 0 ∧ (0 : Int) ≤ 256; omega
 ·
  show 0 ≤ ((k % 9 : Nat) : Int) + 1 ∧ ((k % 9 : Nat) : Int) + 1 ≤ 256; omega
 ·
  show 0 ≤ qOf t k ∧ qOf t k ≤ 256; omega
theorem okL_chg {d : Chg} (h : checkC d = 0) : OkL d := by
 obtain ⟨h0, h1, h2, h3, h4⟩ := checkC_zero h
 exact ⟨by omega, h1, by omega, by omega, plainW_name h4⟩
theorem bodyW_plain {ws : List Str} (h0 : ws ≠ []) (h : ∀ s ∈ ws, plainW s = true) : (10 : UInt8) ∉ bodyW ws ∧ bodyW ws ≠ [] := by
 cases ws with
 | nil => exact absurd rfl h0
 | cons w r => exact lineD_free w r h
/-- what the lines of teams and changes without error are -/
structure LinesOk (t : Tms) (l : List Chg) : Prop where
 slot : ∀ k, k < 18 → OkL (cOf t k)
 chg : ∀ d ∈ l, OkL d
theorem LinesOk.of {t : Tms} {l : List Chg} (ht : t.ok) (h : checkChanges t l = 0) : LinesOk t l :=
 ⟨fun _ hk => okL_slot ht (checkTeams_zero (cc_parts h).1) hk, fun d hd => okL_chg ((cc_parts h).2.2.1 d hd)⟩
theorem LinesOk.free {t : Tms} {l : List Chg} (h : LinesOk t l) : ∀ b ∈ bodies t l, (10 : UInt8) ∉ b ∧ b ≠ [] := by
 intro b hb
 unfold bodies at hb
 rcases List.mem_append.1 hb with hb | hb
 ·
  obtain ⟨k, hk, rfl⟩ := List.mem_map.1 hb
  exact bodyW_plain (by simp [slotW]) (slotW_plain (h.slot k (List.mem_range.1 hk)))
 ·
  obtain ⟨d, hd, rfl⟩ := List.mem_map.1 hb
  exact bodyW_plain (by simp [chgW]) (chgW_plain (h.chg d hd))
theorem linesP_lo (t : Tms) (l : List Chg) (k : Nat) (hk : k < 18) (x : Str) (hx : (linesP t l)[k]? = some x) : x = mkS (lineD (slotW (cOf t k).side (cOf t k).slot (cOf t k).name (cOf t k).pos)) := by
 rw [linesP_eq, List.getElem?_append_left (by simpa using hk)] at hx
 simp [hk] at hx
 exact hx.symm
theorem linesP_hi (t : Tms) (l : List Chg) (k : Nat) (x : Str) (hx : (linesP t l)[18 + k]? = some x) : ∃ d, l[k]? = some d ∧ x = mkS (lineD (chgW d)) := by
 rw [linesP_eq, List.getElem?_append_right (by simp)] at hx
 simp at hx
 obtain ⟨d, hd, e⟩ := hx
 exact ⟨d, hd, e.symm⟩
theorem LinesOk.bad {t : Tms} {l : List Chg} (h : LinesOk t l) (k : Nat) (x : Str) (hx : (linesP t l)[k]? = some x) : lineBad k x = false := by
 unfold lineBad
 by_cases hk : k < 18
 ·
  rw [linesP_lo t l k hk x hx, lineX_slot (h.slot k hk) rfl hk]
  simp [placeBad, cOf, c18]
 ·
  obtain ⟨j, rfl⟩ : ∃ j, k = 18 + j := ⟨k - 18, by omega⟩
  obtain ⟨d, hd, rfl⟩ := linesP_hi t l j x hx
  rw [lineX_chg (h.chg d (List.mem_of_getElem? hd)) (by omega)]
  simp [placeBad]
  exact fun h => absurd h (by omega)
/-- the lines as two lists -/
def linesA (t : Tms) : List Str := (List.range 18).map fun k => mkS (lineD (slotW (cOf t k).side (cOf t k).slot (cOf t k).name (cOf t k).pos))
def linesB (l : List Chg) : List Str := l.map fun d => mkS (lineD (chgW d))
theorem linesAB (t : Tms) (l : List Chg) : linesP t l = linesA t ++ linesB l := linesP_eq t l
theorem linesA_len (t : Tms) : (linesA t).length = 18 := by simp [linesA]
theorem LinesOk.pT {t : Tms} {l : List Chg} (h : LinesOk t l) (ht : t.ok) : pT 0 .zero (linesP t l) = t := by
 rw [linesAB, pT_append, linesA_len, pT_late _ _ _ (by omega), pT_fold (linesA t) 0 .zero (cOf t) (by rw [linesA_len]; omega), linesA_len]
 ·
  have := fold18 (nOf t) (qOf t)
  have e : (List.range 18).map (fun k => cOf t (0 + k)) = (List.range 18).map (c18 (nOf t) (qOf t)) := List.map_congr_left fun k _ => by rw [Nat.zero_add]; rfl
  rw [e, this]
  exact t18_of t ht
 ·
  intro k x hx
  have hk : k < 18 := by have := (List.getElem?_eq_some_iff.1 hx).1; rw [linesA_len] at this; exact this
  have e : x = mkS (lineD (slotW (cOf t k).side (cOf t k).slot (cOf t k).name (cOf t k).pos)) := by
   simp [linesA, hk] at hx; exact hx.symm
  rw [Nat.zero_add, e, lineX_slot (h.slot k hk) rfl hk]
theorem LinesOk.pL {t : Tms} {l : List Chg} (h : LinesOk t l) : pL 0 (linesP t l) = l := by
 rw [linesAB, pL_append, linesA_len, pL_early _ _ (by rw [linesA_len]; omega), List.nil_append, pL_late _ _ (by omega)]
 have hn : (linesB l).length = l.length := by simp [linesB]
 rw [hn]
 apply List.ext_getElem (by simp)
 intro i h1 h2
 have e : (linesB l).getD i .empty = mkS (lineD (chgW l[i])) := by
  simp [linesB, List.getD_eq_getElem?_getD, h2]
 simp only [List.getElem_map, List.getElem_range]
 rw [e, lineX_chg (h.chg _ (List.getElem_mem h2)) (by omega)]
theorem linesOf_print {t : Tms} {l : List Chg} (h : LinesOk t l) (s : Str) (hs : s.data.toList = printD t l) : linesOf s = linesP t l :=
 linesOf_whole (bodies t l) (fun b hb => (h.free b hb).1) s hs

/-- WHAT IS PRINTED IS PARSED AGAIN -/
theorem parse_print {t : Tms} (ht : t.ok) {l : List Chg} (h : checkChanges t l = 0) (s : Str) (hs : s.data.toList = printD t l) (hsz : s.size ≤ 4096) : parseR s = ⟨t, l, 0, 0⟩ := by
 have H := LinesOk.of ht h
 unfold parseR
 rw [if_neg (by omega), linesOf_print H s hs]
 unfold parseLs
 rw [firstBad_none (fun k x hx => by rw [Nat.zero_add]; exact H.bad k x hx)]
 simp only [linesP_len, H.pT ht, H.pL, h]
 rw [if_neg (by omega), if_neg (by simp)]

/-- THE TEXT WITHOUT ITS LAST BYTE IS NOT PARSED -/
theorem parse_torn {t : Tms} (ht : t.ok) {l : List Chg} (h : checkChanges t l = 0) (s : Str) (hs : s.data.toList = (printD t l).dropLast) (hsz : s.size ≤ 4096) : parseR s = ⟨.zero, [], ((17 + l.length : Nat) : Int), 25⟩ := by
 have H := LinesOk.of ht h
 have hne : bodies t l ≠ [] := by unfold bodies; simp
 obtain ⟨init, b, e⟩ : ∃ init b, bodies t l = init ++ [b] := ⟨(bodies t l).dropLast, (bodies t l).getLast hne, (List.dropLast_concat_getLast hne).symm⟩
 have hF : ∀ x ∈ init ++ [b], (10 : UInt8) ∉ x ∧ x ≠ [] := e ▸ H.free
 have hb := hF b (by simp)
 have hlen : init.length = 17 + l.length := by
  have : (bodies t l).length = 18 + l.length := by unfold bodies; simp
  rw [e, List.length_append, List.length_singleton] at this; omega
 have hD : (printD t l).dropLast = (init.map (· ++ [10])).flatten ++ b := by
  unfold printD
  rw [e]
  simp only [List.map_append, List.map_cons, List.map_nil, List.flatten_append, List.flatten_cons, List.flatten_nil, List.append_nil]
  rw [← List.append_assoc, List.dropLast_concat]
 have hls : linesOf s = (init.map fun b => mkS (b ++ [10])) ++ [mkS b] := linesOf_torn init b (fun x hx => (hF x (List.mem_append_left _ hx)).1) hb.1 hb.2 s (by rw [hs, hD])
 have hP : linesP t l = (init.map fun b => mkS (b ++ [10])) ++ [mkS (b ++ [10])] := by
  unfold linesP; rw [e]; simp
 have h0 : firstBad 0 (init.map fun b => mkS (b ++ [10])) = none := firstBad_none (fun k x hx => by
  rw [Nat.zero_add]
  refine H.bad k x ?_
  rw [hP, List.getElem?_append_left (List.getElem?_eq_some_iff.1 hx).1]
  exact hx)
 have hbad : lineBad (0 + (init.map fun b => mkS (b ++ [10])).length) (mkS b) = true := by
  have hw : wholeOf (mkS b) = false := by
   unfold wholeOf Go.Lib.hasSuffix
   rw [mkS_data]
   cases hx : List.isSuffixOf [10] b with
   | false => rfl
   | true =>
    rw [List.isSuffixOf_iff_suffix] at hx
    obtain ⟨p, hp⟩ := hx
    exact absurd (by rw [← hp]; simp) hb.1
  unfold lineBad
  rw [lineX_torn hw]; rfl
 have hfb := firstBad_last h0 hbad
 unfold parseR
 rw [if_neg (by omega), hls]
 unfold parseLs
 rw [hfb, Nat.zero_add, List.length_map, hlen]

/-- WHATEVER IS PARSED IS PRINTED AS IT WAS -/
theorem print_parse (s : Str) (h : (parseR s).e = 0) : (parseR s).t.ok ∧ checkChanges (parseR s).t (parseR s).l = 0 ∧ printD (parseR s).t (parseR s).l = s.data.toList := by
 unfold parseR at h ⊢
 split at h
 ·
  cases h
 rename_i hsz
 rw [if_neg hsz]
 generalize hls : linesOf s = ls at h ⊢
 unfold parseLs at h ⊢
 cases hfb : firstBad 0 ls with
 | some i => rw [hfb] at h; cases h
 | none =>
  rw [hfb] at h
  simp only at h ⊢
  by_cases h18 : ls.length < 18
  ·
   rw [if_pos h18] at h; cases h
  by_cases hcc : checkChanges (pT 0 .zero ls) (pL 0 ls) ≠ 0
  ·
   rw [if_neg h18, if_pos hcc] at h; exact absurd h hcc
  rw [if_neg h18, if_neg hcc]
  simp only
  have hcc0 : checkChanges (pT 0 .zero ls) (pL 0 ls) = 0 := by
   rcases Classical.em (checkChanges (pT 0 .zero ls) (pL 0 ls) = 0) with h | h
   ·
    exact h
   ·
    exact absurd h hcc
  refine ⟨pT_ok ls 0 _ Tms.zero_ok, hcc0, ?_⟩
  have hinv := firstBad_inv hfb
  simp only [Nat.zero_add] at hinv
  -- what each line says
  have hline : ∀ k x, ls[k]? = some x → (lineX k x).2.bad = false ∧ placeBad k (lineX k x).1 = false ∧ (lineX k x).2.ws.length = 0 := fun k x hx => by
   have := hinv k x hx
   unfold lineBad at this
   simp only [Bool.or_eq_false_iff, decide_eq_false_iff_not] at this
   exact ⟨this.1.1, this.1.2, by omega⟩
  obtain ⟨N, hN⟩ : ∃ N : Nat → Str, N = fun k => (lineX k (ls.getD k .empty)).1.name := ⟨_, rfl⟩
  obtain ⟨Q, hQ⟩ : ∃ Q : Nat → Int, Q = fun k => (lineX k (ls.getD k .empty)).1.pos := ⟨_, rfl⟩
  have hlo : ∀ k x, k < 18 → ls[k]? = some x → (lineX k x).1 = c18 N Q k ∧ x = mkS (lineD (slotW (c18 N Q k).side (c18 N Q k).slot (c18 N Q k).name (c18 N Q k).pos)) := fun k x hk hx => by
   obtain ⟨h1, h2, h3⟩ := hline k x hx
   obtain ⟨hp, hs⟩ := (lineX_inv h1 h3).1 hk
   have hg : ls.getD k .empty = x := by rw [List.getD_eq_getElem?_getD, hx]; rfl
   have hc : (lineX k x).1 = c18 N Q k := by
    unfold placeBad at h2
    rw [decide_eq_true hk, Bool.true_and] at h2
    simp only [Bool.or_eq_false_iff, bne_eq_false_iff_eq] at h2
    subst hN hQ
    show (lineX k x).1 = ⟨(k / 9 : Nat), 0, ((k % 9 : Nat) : Int) + 1, (lineX k (ls.getD k .empty)).1.name, (lineX k (ls.getD k .empty)).1.pos⟩
    rw [hg]
    generalize lineX k x = y at hp h2 ⊢
    obtain ⟨⟨a, b, c, d, e⟩, r⟩ := y
    simp only at hp h2 ⊢
    rw [hp, h2.1, h2.2]
   rw [hc] at hs
   exact ⟨hc, hs⟩
  have hsplit : ls = ls.take 18 ++ ls.drop 18 := (List.take_append_drop 18 ls).symm
  have htl : (ls.take 18).length = 18 := by rw [List.length_take]; omega
  have hT : pT 0 .zero ls = t18 N Q := by
   rw [hsplit, pT_append, htl, pT_late _ _ _ (by omega), pT_fold (ls.take 18) 0 .zero (c18 N Q) (by omega), htl]
   ·
    have e : (List.range 18).map (fun k => c18 N Q (0 + k)) = (List.range 18).map (c18 N Q) := List.map_congr_left fun k _ => by rw [Nat.zero_add]
    rw [e, fold18]
   ·
    intro k x hx
    have hk : k < 18 := by have := (List.getElem?_eq_some_iff.1 hx).1; omega
    rw [Nat.zero_add]
    rw [List.getElem?_take_of_lt hk] at hx
    exact (hlo k x hk hx).1
  have hL : pL 0 ls = (List.range (ls.drop 18).length).map fun k => (lineX (18 + k) ((ls.drop 18).getD k .empty)).1 := by
   conv => lhs; rw [hsplit]
   rw [pL_append, htl, pL_early _ _ (by omega), List.nil_append, pL_late _ _ (by omega)]
  have hlines : linesP (pT 0 .zero ls) (pL 0 ls) = ls := by
   rw [linesAB]
   conv => rhs; rw [hsplit]
   congr 1
   ·
    apply List.ext_getElem?
    intro k
    by_cases hk : k < 18
    ·
     have hx : ls[k]? = some (ls[k]'(by omega)) := List.getElem?_eq_getElem (by omega)
     rw [List.getElem?_take_of_lt hk, hx, (hlo k _ hk hx).2]
     have ec : cOf (pT 0 .zero ls) k = c18 N Q k := by
      have := t18_at N Q k hk
      unfold cOf c18 nOf qOf
      rw [hT, this.1, this.2]
     simp [linesA, hk, ec]
    ·
     rw [List.getElem?_eq_none (by rw [linesA_len]; omega), List.getElem?_eq_none (by rw [htl]; omega)]
   ·
    rw [hL]
    unfold linesB
    apply List.ext_getElem?
    intro k
    by_cases hk : k < (ls.drop 18).length
    ·
     have hx : (ls.drop 18)[k]? = some ((ls.drop 18)[k]'hk) := List.getElem?_eq_getElem hk
     have hx2 : ls[18 + k]? = some ((ls.drop 18)[k]'hk) := by rw [← List.getElem?_drop]; exact hx
     obtain ⟨h1, h2, h3⟩ := hline _ _ hx2
     have hs := (lineX_inv h1 h3).2 (by omega)
     have hg : (ls.drop 18).getD k .empty = (ls.drop 18)[k]'hk := by rw [List.getD_eq_getElem?_getD, hx]; rfl
     rw [hx, List.getElem?_map, List.getElem?_map, List.getElem?_range hk]
     simp only [Option.map_some]
     rw [hg, ← hs]
    ·
     rw [List.getElem?_eq_none (by simp only [List.length_map, List.length_range]; omega), List.getElem?_eq_none (by omega)]
  rw [← linesP_flat, hlines, ← hls]
  exact linesOf_flat s
end L
end Go.Proofs.YtmagppkclnebjaaGreatDoor
