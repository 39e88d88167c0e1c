/- The reference: Split. -/
import Derived.Test.YtmagppkclnebjaaGreatDoorO1
import Derived.Test.YtmagppkclnebjaaGreatDoorZ1
import Derived.Test.YtmagppkclnebjaaGreatDoorH5
set_option linter.unusedVariables false
set_option linter.unusedSimpArgs false
set_option linter.unusedSimpArgs false
set_option linter.unusedVariables false
namespace Go.Proofs.YtmagppkclnebjaaGreatDoor
open Go.RowKit
open L

/-- the pieces of a string between the bytes c -/
def L.piecesS (c : UInt8) (s : Str) : List Str := (cutC c false s.data.toList).map mkS
theorem cutP_len (c : UInt8) (l : List UInt8) : (cutC c false l).length ≤ l.length + 1 := by
 induction l with
 | nil => simp [cutC]
 | cons b l ih =>
  obtain ⟨h, t, e⟩ := cutC_ne c false l
  unfold cutC
  split
  ·
   simp only [List.length_cons]; omega
  ·
   rw [e] at ih ⊢; simp only [List.length_cons] at ih ⊢; omega
/-- what is cut off up to a place where the byte stands, or at the end -/
theorem drop_cut (c : UInt8) (l : List UInt8) (fr k : Nat) (h : fr ≤ k) (hk : k < l.length) (hc : l[k] = c) (hn : c ∉ (l.drop fr).take (k - fr)) : cutC c false (l.drop fr) = (l.drop fr).take (k - fr) :: cutC c false (l.drop (k + 1)) := by
 have e : l.drop fr = (l.drop fr).take (k - fr) ++ c :: l.drop (k + 1) := by
  conv => lhs; rw [← List.take_append_drop (k - fr) (l.drop fr)]
  rw [List.drop_drop, show fr + (k - fr) = k by omega, List.drop_eq_getElem_cons hk, hc]
 conv => lhs; rw [e]
 rw [cutC_sep c false _ _ hn]; rfl
theorem extract_mk (s : Str) (a b : Nat) : s.extract a b = mkS ((s.data.toList.drop a).take (b - a)) := by
 apply str_ext
 rw [Go.Lib.extract_data, mkS_data]
theorem take_free {c : UInt8} {l : List UInt8} {fr k : Nat} (h : fr ≤ k) (hk : k < l.length) (hc : l[k] ≠ c) (hn : c ∉ (l.drop fr).take (k - fr)) : c ∉ (l.drop fr).take (k + 1 - fr) := by
 rw [show k + 1 - fr = (k - fr) + 1 by omega, List.take_succ_eq_append_getElem (by rw [List.length_drop]; omega)]
 rw [List.mem_append, not_or]
 refine ⟨hn, ?_⟩
 rw [List.mem_singleton, List.getElem_drop]
 intro e
 apply hc
 rw [e]; congr 1; omega

set_option maxHeartbeats 8000000 in
set_option maxRecDepth 100000 in
theorem refSplit_any (s : Str) (hs : s.size ≤ 100000) (c : UInt8) (w : World) :
 Calls Tryz.prog 87 #[.string s, .int .u8 (c.toNat : Nat)] w fun x w' => (∃ B d, x = .returned (.slice B (piecesS c s).length d) ∧ Rd w' B ((piecesS c s).map .string) ∧ ∀ a, B = some a → w.heap.size ≤ a.block) ∧ Below w.heap.size w w' := by
 obtain ⟨i0, hi, hz0, hz1, hz2⟩ := info_parts infoS
 have hlen : s.data.toList.length = s.size := by rw [← Lib.size_eq]
 obtain ⟨L0, hL0⟩ : ∃ L0, s.data.toList = L0 := ⟨_, rfl⟩
 have HL := Lib.hid hL0
 have Hlen : Hid (L0.length = s.size) := by show _ = _; rw [← hL0]; exact hlen
 have HP : Hid (piecesS c s = (cutC c false L0).map mkS) := by show _ = _; rw [← hL0]; rfl
 have Hcl : Hid ((cutC c false L0).length ≤ 100001) := by show _ ≤ _; have := cutP_len c L0; rw [← hL0, hlen] at this; rw [← hL0]; omega
 clear hlen hL0
 obtain ⟨cb, hcb⟩ : ∃ cb : Nat, c.toNat = cb := ⟨_, rfl⟩
 have Hcb := Lib.hid hcb
 have hcb2 : cb < 256 := by have := c.toNat_lt; omega
 rw [hcb]
 clear hcb
 go_enter Tryz.func87, Tryz.ntmps87
 go_wp2
 go_loopw [5, 6, 7] (fun v f i wr => ∃ (k fr : Nat) (out : List Str), k ≤ s.size + 1 ∧ i = .int .i64 k ∧ f = .int .i64 fr ∧ fr ≤ k ∧ fr ≤ s.size + 1 ∧ Below w.heap.size w wr ∧ wr.ownsRow w.heap.size 9 1 v out.length (out.map .string) ∧ (k ≤ s.size → c ∉ (L0.drop fr).take (k - fr)) ∧ (k ≤ s.size → out ++ (cutC c false (L0.drop fr)).map mkS = (cutC c false L0).map mkS) ∧ (k = s.size + 1 → out = (cutC c false L0).map mkS)) (fun _ _ i _ => s.size + 1 - (intOf i).toNat)
 case atStart => exact ⟨0, 0, [], by omega, rfl, rfl, by omega, by omega, Below.refl _ _, World.ownsRow_nil _ _ _ _, fun _ => by simp, fun _ => by simp, fun h => by omega⟩
 case round =>
  obtain ⟨k, fr, out, hk, rfl, rfl, hfk, hfs, hb, hown, hfree, hout, hend⟩ := hrel
  have Hb := Lib.hid hb; have Hown := Lib.hid hown; have Hfree := Lib.hid hfree; have Hout := Lib.hid hout; have Hend := Lib.hid hend
  clear hb hown hfree hout hend
  have hsz := Hb.out.size
  have hol : out.length ≤ 100001 := by
   by_cases h : k ≤ s.size
   ·
    have := congrArg List.length (Hout.out h); rw [List.length_append, List.length_map, List.length_map] at this; have := Hcl.out; omega
   ·
    have := congrArg List.length (Hend.out (by omega)); rw [List.length_map] at this; have := Hcl.out; omega
  by_cases hks : k = s.size
  ·
   subst hks
   have g1 : ((s.size : Int) == (s.size : Int)) = true := by simp
   have hcs := cell_one_new wr (.string (s.extract fr s.size)) 9
   have Hlast : Hid ((out ++ [s.extract fr s.size]) = (cutC c false L0).map mkS) := by
    show _ = _
    rw [← Hout.out (Nat.le_refl _), extract_mk, HL.out]
    have e : (L0.drop fr).take (s.size - fr) = L0.drop fr := List.take_of_length_le (by rw [List.length_drop, Hlen.out]; exact Nat.le_refl _)
    have hf := Hfree.out (Nat.le_refl _)
    rw [e] at hf ⊢
    rw [cutC_one c false _ hf]; rfl
   go_wp2_with (at_builtin; refine wpList_append_own _ rfl _ _ 26 rfl w.heap.size 9 i0 (.string { data := #[] }) 1 16 Tryz.underlying26 hi hz0 hz1 hz2 rfl (by decide) _ _ _ rfl (Hown.out.alloc _) ⟨wr.heap.size, 0, none⟩ 1 1 [.string (s.extract fr s.size)] rfl rfl hcs (strs_oneCell [s.extract fr s.size]) (by unfold maxLen; omega) (by omega) (by simp; omega) ?_; intro v' w5 hown' hgrow hnil)
   go_roundw
   case rel =>
    refine ⟨s.size + 1, s.size + 1, out ++ [s.extract fr s.size], by omega, by go_num, by go_num, by omega, by omega, (bt_alloc Hb.out _).grown hgrow (by simp; omega) (fun q e => (Hown.out.lt q e).1), by simpa using hown', fun h => by omega, fun h => by omega, fun _ => Hlast.out⟩
   case measure => simp [intOf]
  ·
   by_cases hlt : k < s.size
   ·
    have hl : k < L0.length := by rw [Hlen.out]; exact hlt
    have g0' : ¬ (k : Int) = (s.size : Int) := by omega
    have g0 : ((k : Int) == (s.size : Int)) = false := by simpa using g0'
    clear g0'
    have hgb : L0[k] = s[k] := by
     have : s.data.toList[k]'(by rw [HL.out]; exact hl) = L0[k] := by congr 1
     rw [← this]; rfl
    by_cases hc : s[k] = c
    ·
     have gc : ((s[k].toNat : Int) == (cb : Int)) = true := by rw [hc, Hcb.out]; simp
     have Hnext : Hid ((out ++ [s.extract fr k]) ++ (cutC c false (L0.drop (k + 1))).map mkS = (cutC c false L0).map mkS) := by
      show _ = _
      rw [← Hout.out (by omega), drop_cut c L0 fr k hfk hl (by rw [hgb]; exact hc) (Hfree.out (by omega)), extract_mk, HL.out]
      simp
     have hcs := cell_one_new wr (.string (s.extract fr k)) 9
     clear hgb hc
     go_wp2_with (at_builtin; refine wpList_append_own _ rfl _ _ 26 rfl w.heap.size 9 i0 (.string { data := #[] }) 1 16 Tryz.underlying26 hi hz0 hz1 hz2 rfl (by decide) _ _ _ rfl (Hown.out.alloc _) ⟨wr.heap.size, 0, none⟩ 1 1 [.string (s.extract fr k)] rfl rfl hcs (strs_oneCell [s.extract fr k]) (by unfold maxLen; omega) (by omega) (by simp; omega) ?_; intro v' w5 hown' hgrow hnil)
     go_roundw
     case rel =>
      refine ⟨k + 1, k + 1, out ++ [s.extract fr k], by omega, by go_num, by go_num, by omega, by omega, (bt_alloc Hb.out _).grown hgrow (by simp; omega) (fun q e => (Hown.out.lt q e).1), by simpa using hown', fun _ => by simp, fun _ => Hnext.out, fun h => by omega⟩
     case measure => simp [intOf]; omega
    ·
     have gc : ((s[k].toNat : Int) == (cb : Int)) = false := by
      simp
      intro e
      exact hc (UInt8.toNat_inj.1 (by rw [Hcb.out]; omega))
     have Hn : Hid (c ∉ (L0.drop fr).take (k + 1 - fr)) := take_free hfk hl (by rw [hgb]; exact hc) (Hfree.out (by omega))
     clear hgb hc
     go_wp2
     go_roundw
     case rel =>
      exact ⟨k + 1, fr, out, by omega, by go_num, rfl, by omega, by omega, Hb.out, Hown.out, fun _ => Hn.out, fun _ => Hout.out (by omega), fun h => by omega⟩
     case measure => simp [intOf]; omega
   ·
    obtain rfl : k = s.size + 1 := by omega
    have Hfin := Lib.hid (Hend.out rfl)
    have n1 : ¬ ((s.size : Int) + 1) ≤ (s.size : Int) := by omega
    rw [← HP.out] at Hfin
    have hlt := Hown.out.lt
    obtain ⟨_, B, d, rfl, hr⟩ := SlK.of_own Hown.out
    have Hlt : Hid (∀ a, B = some a → w.heap.size ≤ a.block) := fun a e => by subst e; exact (hlt a.block rfl).1
    clear hlt
    have Hr : Hid (Rd wr B (out.map .string)) := hr
    clear hr
    rw [Hfin.out] at Hr
    have Hlo : Hid (out.length = (piecesS c s).length) := by show _ = _; rw [Hfin.out]
    go_wp2
    go_ret
    refine ⟨⟨B, ⟨d, ?_⟩, Hr.out, Hlt.out⟩, Hb.out⟩
    rw [← Hlo.out]; rfl
end Go.Proofs.YtmagppkclnebjaaGreatDoor
