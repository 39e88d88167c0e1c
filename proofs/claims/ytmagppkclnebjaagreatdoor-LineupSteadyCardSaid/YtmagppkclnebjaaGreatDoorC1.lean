/- lineup.CheckChanges returns the first error of teams and changes. Conditions: the teams are two lineups of nine slots each; the slice of changes reads as a list. -/
import Derived.Test.YtmagppkclnebjaaGreatDoorQa
import Derived.Test.YtmagppkclnebjaaGreatDoorA8
set_option linter.unusedVariables false
set_option linter.unusedSimpArgs false
set_option linter.unusedSimpArgs false
namespace Go.Proofs.YtmagppkclnebjaaGreatDoor
open Go.RowKit
open L

set_option maxHeartbeats 20000000 in
set_option maxRecDepth 100000 in
theorem checkChanges_pre (t : Tms) (ht : t.ok) (T : Array Value) (hT : T = t.cells.toArray) (l : List Chg) (A : Option Addr) (n c : Nat) (hn : l.length = n) (w : World) (hl : RdC w A l) :
 Calls Tryz.prog 61 #[.agg T, .slice A n c] w fun x w' => x = .returned (.int .i64 (checkChanges t l)) ∧ Below w.heap.size w w' := by
 have hbk : Bk (w.alloc (.cells T 54)) w.heap.size 54 T := Bk.new _ _ _
 have hcs : ∀ W, Bk W w.heap.size 54 T → ∀ j, j < t.cells.length → W.cell? ⟨w.heap.size, 0 + j, none⟩ = t.cells[j]? := fun W h j _ => by rw [h.cell, hT, List.getElem?_toArray, Nat.zero_add]
 have hi : (Tryz.prog.info? 54).map (·.size) = some t.cells.length := by rw [info54, Tms.cells_len t ht]
 have Hcs := Lib.hid hcs; have Hi := Lib.hid hi; have Hbk := Lib.hid hbk; have Ht := Lib.hid ht; have Hn := Lib.hid hn; have Hl := Lib.hid hl; have HT := Lib.hid hT
 clear hcs hi hbk ht hn hl hT
 have hmm := @run_makeMap Tryz.prog
 have he : firstE [checkTeams t, whenE (decide (l.length > 64)) 5] = firstE [checkTeams t, whenE (decide (64 < (n : Int))) 5] := by
  rw [Hn.out]; congr 4; simp; omega
 have He := Lib.hid he; clear he
 by_cases hE : firstE [checkTeams t, whenE (decide (64 < (n : Int))) 5] = 0
 ·
  have hz : (firstE [checkTeams t, whenE (decide (64 < (n : Int))) 5] != 0) = false := by simpa using hE
  have hn64 : n ≤ 64 := by
   rcases Nat.lt_or_ge 64 n with h | h
   ·
    exfalso
    have : decide (64 < (n : Int)) = true := by simp; omega
    rw [this] at hE
    simp only [firstE, whenE, if_true] at hE
    split at hE <;> simp_all
   ·
    exact h
  have hct : checkTeams t = 0 := by
   simp only [firstE] at hE
   split at hE
   ·
    assumption
   ·
    exact hE
  have HE := Lib.hid hE; clear hE
  have Hct := Lib.hid hct; clear hct
  have HH : Hid (checkChanges t l = ccLoop t (t.l0.b ++ t.l1.b) none l) := by
   show _ = _
   unfold checkChanges
   rw [He.out, if_neg (by rw [HE.out]; simp)]
  go_enter Tryz.func61, Tryz.ntmps61
  go_wp2_with (first
   | (refine wpList_load_cells rfl 54 _ rfl w.heap.size 0 rfl t.cells (Hcs.out _ Hbk.out) _ Tryz.underlying54 rfl Hi.out ?_)
   | (refine wpList_load_cells rfl 54 _ rfl w.heap.size 0 rfl t.cells (Hcs.out _ (((Hbk.out.below hb1 (by simp)).alloc _).alloc _)) _ Tryz.underlying54 rfl Hi.out ?_)
   | (go_at_call 56; refine (checkTeams_any t Ht.out _ rfl _).mono ?_; rintro e w1 ⟨rfl, hb1⟩)
   | (go_at_call 68; refine (when_any _ _ _).mono ?_; rintro e w' ⟨rfl, rfl⟩)
   | (go_at_call 89; refine (first2 _ _ _ _ _ _ (by exact heap_alloc_new _ _)).mono ?_; rintro e w' ⟨rfl, rfl⟩))
  have F : Hid (Below w.heap.size w ((w1.alloc (.cells #[.int .i64 (checkTeams t), .int .i64 (whenE (decide (64 < (n : Int))) 5)] 30)).alloc (.map #[] 0)) ∧
   Bk ((w1.alloc (.cells #[.int .i64 (checkTeams t), .int .i64 (whenE (decide (64 < (n : Int))) 5)] 30)).alloc (.map #[] 0)) w.heap.size 54 T ∧
   Seen ((w1.alloc (.cells #[.int .i64 (checkTeams t), .int .i64 (whenE (decide (64 < (n : Int))) 5)] 30)).alloc (.map #[] 0)) (w1.heap.size + 1) [] ∧ w.heap.size < w1.heap.size + 1) := by
   have s1 := hb1.size
   rw [World.size_alloc] at s1
   refine ⟨bt_alloc (bt_alloc (bt_trans (bt_new w _) hb1) _) _, ((Hbk.out.below hb1 (by simp)).alloc _).alloc _, ?_, by omega⟩
   have := Seen.made (w1.alloc (.cells #[.int .i64 (checkTeams t), .int .i64 (whenE (decide (64 < (n : Int))) 5)] 30))
   rwa [World.size_alloc] at this
  clear hb1
  generalize (w1.alloc (.cells #[.int .i64 (checkTeams t), .int .i64 (whenE (decide (64 < (n : Int))) 5)] 30)).alloc (.map #[] 0) = W1 at F ⊢
  generalize w1.heap.size + 1 = m at F ⊢
  go_loopw [32] (fun i wr => ∃ k : Nat, k ≤ 2 ∧ i = .int .i64 k ∧ Below w.heap.size w wr ∧ Bk wr w.heap.size 54 T ∧ Seen wr m (kn t k) ∧ w.heap.size < m) (fun i _ => 2 - (intOf i).toNat)
  case atStart => exact ⟨0, by omega, rfl, F.out.1, F.out.2.1, F.out.2.2.1, F.out.2.2.2⟩
  case round =>
   obtain ⟨k, hk, rfl, hb, hbk, hsn, hgm⟩ := hrel
   clear F
   by_cases hlt : k < 2
   ·
    have hix := fun W => run_index54 W t Ht.out k hlt
    have hL : (t.get k).ok := by
     unfold Tms.get
     split
     ·
      exact Ht.out.1
     ·
      exact Ht.out.2
    generalize hX : t.get k = X at hix hL
    have HX := Lib.hid hX; have HL := Lib.hid hL; clear hX hL
    have Hb := Lib.hid hb; have Hbk := Lib.hid hbk; have Hsn := Lib.hid hsn; clear hb hbk hsn
    have hsz18 : X.cells.toArray.size = 18 := by simp [LU.cells_len _ HL.out]
    have hth : (wr.alloc (.cells #[.string { data := #[] }, .string { data := #[] }, .string { data := #[] }, .string { data := #[] }, .string { data := #[] }, .string { data := #[] }, .string { data := #[] }, .string { data := #[] }, .string { data := #[] }, .int .i64 0, .int .i64 0, .int .i64 0, .int .i64 0, .int .i64 0, .int .i64 0, .int .i64 0, .int .i64 0, .int .i64 0] 33)).there wr.heap.size 0 X.cells.toArray.size := fun j hj => by
     rw [hsz18] at hj
     have hk := Bk.new wr 33 #[.string { data := #[] }, .string { data := #[] }, .string { data := #[] }, .string { data := #[] }, .string { data := #[] }, .string { data := #[] }, .string { data := #[] }, .string { data := #[] }, .string { data := #[] }, .int .i64 0, .int .i64 0, .int .i64 0, .int .i64 0, .int .i64 0, .int .i64 0, .int .i64 0, .int .i64 0, .int .i64 0]
     exact ⟨by rw [hk.cell, Nat.zero_add]; simp [hj], hk.frozen _⟩
    have hone : X.cells.toArray.all (·.oneCell') = true := all_oneCell_toArray (by intro v hv; simp [LU.cells] at hv; rcases hv with ⟨_, _, rfl⟩ | ⟨_, _, rfl⟩ <;> rfl)
    have hi33 : (Tryz.prog.info? 33).map (·.size) = some X.cells.toArray.size := by rw [info33, hsz18]
    have hrg := World.rangeAt_setCells_same _ wr.heap.size 0 X.cells.toArray.toList (by simpa using hth)
    simp only at hrg
    have hld := LU.rangeB HL.out hrg
    have hbl := bts_below (bt_new wr (.cells #[.string { data := #[] }, .string { data := #[] }, .string { data := #[] }, .string { data := #[] }, .string { data := #[] }, .string { data := #[] }, .string { data := #[] }, .string { data := #[] }, .string { data := #[] }, .int .i64 0, .int .i64 0, .int .i64 0, .int .i64 0, .int .i64 0, .int .i64 0, .int .i64 0, .int .i64 0, .int .i64 0] 33)) X.cells 0
    have hi22 : (Tryz.prog.info? 22).map (·.size) = some (X.b.map Value.string).length := by rw [info22]; simp [HL.out.1]
    have Hld := Lib.hid hld; have Hbl := Lib.hid hbl; have Hi22 := Lib.hid hi22; clear hrg hld hbl hi22
    have Hth := Lib.hid hth; have Hone := Lib.hid hone; have Hi33 := Lib.hid hi33; clear hth hone hi33 hsz18
    go_wp2_with (first
     | (refine wp_store_mid 33 (.tmp 8) (.tmp 34) rfl wr.heap.size 0 X.cells.toArray rfl rfl Hth.out Hi33.out Hone.out ?_)
     | (refine wpList_store_mid rfl 33 (.tmp 8) (.tmp 34) rfl wr.heap.size 0 X.cells.toArray rfl rfl Hth.out Hi33.out Hone.out ?_)
     | (refine wpList_load_cells rfl 22 _ rfl wr.heap.size 0 rfl (X.b.map Value.string) Hld.out _ Tryz.underlying22 rfl Hi22.out ?_))
    generalize (wr.alloc (.cells #[.string { data := #[] }, .string { data := #[] }, .string { data := #[] }, .string { data := #[] }, .string { data := #[] }, .string { data := #[] }, .string { data := #[] }, .string { data := #[] }, .string { data := #[] }, .int .i64 0, .int .i64 0, .int .i64 0, .int .i64 0, .int .i64 0, .int .i64 0, .int .i64 0, .int .i64 0, .int .i64 0] 33)).setCells wr.heap.size 0 X.cells = W2 at Hbl ⊢
    have Hk2 : Hid (kn t (k + 1) = kn t k ++ X.b) := by
     show _ = _
     have hk' : k = 0 ∨ k = 1 := by omega
     rw [← HX.out]
     rcases hk' with rfl | rfl <;> rfl
    have hnm : ∀ s ∈ X.b, s.size ≤ maxLen := fun s hs => by
     have hg := checkTeams_zero Hct.out
     have : isName s = true := by
      rw [← HX.out] at hs
      unfold Tms.get at hs
      split at hs
      ·
       exact hg.g0.names s hs
      ·
       exact hg.g1.names s hs
     have := isName_size this
     unfold maxLen; omega
    have hknl : (kn t k).length ≤ 18 := by
     have h0 := Ht.out.1.1
     have h1 := Ht.out.2.1
     have hk' : k = 0 ∨ k = 1 := by omega
     rcases hk' with rfl | rfl <;> simp [kn]; omega
    have Hnm := Lib.hid hnm; have Hknl := Lib.hid hknl; clear hnm hknl
    have hs2 := Hbl.out.size
    have hwo := Hb.out.size
    have F2 : Hid (Below w.heap.size w W2 ∧ Bk W2 w.heap.size 54 T ∧ Seen W2 m (kn t k)) :=
     ⟨bt_trans Hb.out Hbl.out, Hbk.out.below Hbl.out Hbk.out.lt, Hsn.out.below Hbl.out Hsn.out.lt⟩
    clear Hb Hbk Hsn Hld Hth Hone Hi33 Hi22 hs2 hwo
    obtain ⟨wo, hwo⟩ : ∃ wo : World, wo = wr := ⟨_, rfl⟩
    rw [← hwo] at Hbl ⊢
    clear hwo
    go_loopw [37] (fun i wq => ∃ j : Nat, j ≤ 9 ∧ i = .int .i64 j ∧ Below w.heap.size w wq ∧ Bk wq w.heap.size 54 T ∧ Seen wq m (kn t k ++ X.b.take j)) (fun i _ => 9 - (intOf i).toNat)
    case atStart => exact ⟨0, by omega, rfl, F2.out.1, F2.out.2.1, by simpa using F2.out.2.2⟩
    case round =>
     obtain ⟨j, hj, rfl, hb, hbk, hsn⟩ := hrel
     clear F2
     by_cases hjt : j < 9
     ·
      have hjl : j < X.b.length := by rw [HL.out.1]; exact hjt
      have hix2 : ∀ W, (Instr.index 22 (.agg (X.b.map Value.string).toArray) (.int .i64 j)).run Tryz.prog W = .ok (.string (X.b.getD j .empty)) W := fun W =>
       run_index_agg W 22 9 9 _ j _ Tryz.underlying22 hjt agg9 size9 (by rw [getD_map_str _ _ hjl])
      have hsz : (X.b.getD j .empty).size ≤ maxLen := Hnm.out _ (by simp [List.getD, List.getElem?_eq_getElem hjl])
      have htk : X.b.take (j + 1) = X.b.take j ++ [X.b.getD j .empty] := by
       rw [List.take_succ_eq_append_getElem hjl]; simp [List.getD, List.getElem?_eq_getElem hjl]
      generalize X.b.getD j .empty = s at hix2 hsz htk
      have Htk := Lib.hid htk; have Hsz := Lib.hid hsz; clear htk hsz
      have Hb := Lib.hid hb; have Hbk := Lib.hid hbk; have Hsn := Lib.hid hsn; clear hb hbk hsn
      have hlen : (kn t k ++ X.b.take j).length < maxLen := by
       have := Hknl.out
       simp only [List.length_append, List.length_take]
       unfold maxLen; omega
      have Hlen := Lib.hid hlen; clear hlen
      go_wp2_with (first
       | (refine wpList_store_seen _ rfl (.tmp 40) (.tmp 41) (.const (.bool true)) rfl m _ rfl s rfl rfl Hsn.out Hsz.out Hlen.out ?_; intro w3 hs3 hg3))
      have hmw := Hsn.out.lt
      go_roundw
      case rel =>
       refine ⟨j + 1, by omega, by go_num, Hb.out.grown hg3 Hb.out.size (fun q hq => by cases hq; omega), ?_, ?_⟩
       ·
        exact (hg3.block _ Hbk.out.lt (by intro e; cases e; omega)).trans Hbk.out
       ·
        rw [Htk.out, ← List.append_assoc]; exact hs3
      case measure => simp [intOf]; omega
     ·
      obtain rfl : j = 9 := by omega
      have Hsn : Hid (Seen wr m (kn t (k + 1))) := by
       rw [Hk2.out]
       rw [List.take_of_length_le (by rw [HL.out.1]; exact Nat.le_refl _)] at hsn
       exact hsn
      have Hb := Lib.hid hb; have Hbk := Lib.hid hbk; clear hb hbk hsn
      go_wp2
      go_roundw
      case rel => exact ⟨k + 1, by omega, by go_num, Hb.out, Hbk.out, Hsn.out, hgm⟩
      case measure => simp [intOf]; omega
   ·
    obtain rfl : k = 2 := by omega
    obtain ⟨wo, hwo⟩ : ∃ wo : World, wo = wr := ⟨_, rfl⟩
    rw [← hwo] at hb hbk hsn ⊢
    clear hwo
    have Hb := Lib.hid hb; have Hbk := Lib.hid hbk; have Hsn := Lib.hid hsn; clear hb hbk hsn
    go_wp2
    have HR0 : Hid t.inR := ⟨(checkTeams_zero Hct.out).g0.range, (checkTeams_zero Hct.out).g1.range⟩
    go_loopw [46] (fun i wr => ∃ (k : Nat) (T1 : Tms) (known : List Str), k ≤ n ∧ i = .int .i64 k ∧ T1.ok ∧ Below w.heap.size w wr ∧ Bk wr w.heap.size 54 T1.cells.toArray ∧ Seen wr m known ∧ known.length ≤ 18 + k ∧ T1.inR ∧
     ccLoop t (t.l0.b ++ t.l1.b) none l = ccLoop T1 known (pv l k) (l.drop k)) (fun i _ => n - (intOf i).toNat)
    case atStart => exact ⟨0, t, t.l0.b ++ t.l1.b, by omega, rfl, Ht.out, Hb.out, HT.out ▸ Hbk.out, Hsn.out, by simp [Ht.out.1.1, Ht.out.2.1], HR0.out, by simp [pv]⟩
    case round =>
     obtain ⟨k, T1, known, hk, rfl, ht1, hb, hbk, hsn, hkl, hin, hcc⟩ := hrel
     clear Hb Hbk Hsn HR0
     have Ht1 := Lib.hid ht1; have Hb := Lib.hid hb; have Hbk := Lib.hid hbk; have Hsn := Lib.hid hsn; have Hin := Lib.hid hin; have Hcc := Lib.hid hcc; have Hkl := Lib.hid hkl
     clear ht1 hb hbk hsn hin hcc hkl
     by_cases hkn : k < n
     ·
      obtain ⟨b, off, rfl, hc⟩ := Hl.out k (by rw [Hn.out]; exact hkn)
      have hb0 : b < w.heap.size := World.block_lt_of_cell? w ⟨b, off + k * 5 + 0, none⟩ (u := .int .i64 (l.getD k ⟨0, 0, 0, .empty, 0⟩).side) (by rw [hc 0 (by omega)]; rfl)
      have hcell : ∀ j, j < 5 → wr.cell? ⟨b, off + k * 5 + j, none⟩ = (l.getD k ⟨0, 0, 0, .empty, 0⟩).val[j]? := fun j hj => by
       rw [Hb.out.cell (p := ⟨b, off + k * 5 + j, none⟩) hb0]; exact hc j hj
      have hdr : l.drop k = l.getD k ⟨0, 0, 0, .empty, 0⟩ :: l.drop (k + 1) := by
       have hkl : k < l.length := by rw [Hn.out]; exact hkn
       rw [List.drop_eq_getElem_cons hkl]
       simp [List.getD, List.getElem?_eq_getElem hkl]
      generalize hd : l.getD k ⟨0, 0, 0, .empty, 0⟩ = d at hcell hdr
      have Hd := Lib.hid hd; have Hdr := Lib.hid hdr; clear hd hdr hc
      have c0 : wr.cell? ⟨b, off + k * 5, none⟩ = some (.int .i64 d.side) := hcell 0 (by omega)
      have c1 : wr.cell? ⟨b, off + k * 5 + 1, none⟩ = some (.int .i64 d.play) := hcell 1 (by omega)
      have c2 : wr.cell? ⟨b, off + k * 5 + 2, none⟩ = some (.int .i64 d.slot) := hcell 2 (by omega)
      have c3 : wr.cell? ⟨b, off + k * 5 + 3, none⟩ = some (.string d.name) := hcell 3 (by omega)
      have c4 : wr.cell? ⟨b, off + k * 5 + 4, none⟩ = some (.int .i64 d.pos) := hcell 4 (by omega)
      clear hcell
      have hkx := Bk.new wr 142 #[.int .i64 d.side, .int .i64 d.play, .int .i64 d.slot, .string d.name, .int .i64 d.pos]
      have x0 : (wr.alloc (.cells #[.int .i64 d.side, .int .i64 d.play, .int .i64 d.slot, .string d.name, .int .i64 d.pos] 142)).cell? ⟨wr.heap.size, 0, none⟩ = some (.int .i64 d.side) := by rw [hkx.cell]; rfl
      have x1 : (wr.alloc (.cells #[.int .i64 d.side, .int .i64 d.play, .int .i64 d.slot, .string d.name, .int .i64 d.pos] 142)).cell? ⟨wr.heap.size, 1, none⟩ = some (.int .i64 d.play) := by rw [hkx.cell]; rfl
      have x2 : (wr.alloc (.cells #[.int .i64 d.side, .int .i64 d.play, .int .i64 d.slot, .string d.name, .int .i64 d.pos] 142)).cell? ⟨wr.heap.size, 2, none⟩ = some (.int .i64 d.slot) := by rw [hkx.cell]; rfl
      have x3 : (wr.alloc (.cells #[.int .i64 d.side, .int .i64 d.play, .int .i64 d.slot, .string d.name, .int .i64 d.pos] 142)).cell? ⟨wr.heap.size, 3, none⟩ = some (.string d.name) := by rw [hkx.cell]; rfl
      have x4 : (wr.alloc (.cells #[.int .i64 d.side, .int .i64 d.play, .int .i64 d.slot, .string d.name, .int .i64 d.pos] 142)).cell? ⟨wr.heap.size, 4, none⟩ = some (.int .i64 d.pos) := by rw [hkx.cell]; rfl
      have F0 : Hid (Below w.heap.size w (wr.alloc (.cells #[.int .i64 d.side, .int .i64 d.play, .int .i64 d.slot, .string d.name, .int .i64 d.pos] 142)) ∧ Bk (wr.alloc (.cells #[.int .i64 d.side, .int .i64 d.play, .int .i64 d.slot, .string d.name, .int .i64 d.pos] 142)) w.heap.size 54 T1.cells.toArray ∧ Seen (wr.alloc (.cells #[.int .i64 d.side, .int .i64 d.play, .int .i64 d.slot, .string d.name, .int .i64 d.pos] 142)) m known ∧ Bk (wr.alloc (.cells #[.int .i64 d.side, .int .i64 d.play, .int .i64 d.slot, .string d.name, .int .i64 d.pos] 142)) wr.heap.size 142 #[.int .i64 d.side, .int .i64 d.play, .int .i64 d.slot, .string d.name, .int .i64 d.pos]) :=
       ⟨bt_alloc Hb.out _, Hbk.out.alloc _, Hsn.out.alloc _, hkx⟩
      have hbx : wr.heap.size < (wr.alloc (.cells #[.int .i64 d.side, .int .i64 d.play, .int .i64 d.slot, .string d.name, .int .i64 d.pos] 142)).heap.size := by simp
      have hbx2 : w.heap.size < wr.heap.size := Hbk.out.lt
      have hbx3 : m < wr.heap.size := Hsn.out.lt
      clear hkx
      go_wp2
      generalize (wr.alloc (.cells #[.int .i64 d.side, .int .i64 d.play, .int .i64 d.slot, .string d.name, .int .i64 d.pos] 142)) = W0 at x0 x1 x2 x3 x4 F0 hbx ⊢
      generalize wr.heap.size = bx at x0 x1 x2 x3 x4 F0 hbx hbx2 hbx3 ⊢
      clear c0 c1 c2 c3 c4 Hb Hbk Hsn
      go_cut [13] (fun s13 wx => s13 = .int .i64 (firstE [checkC d, whenE (late d (pv l k)) 11]) ∧ Below W0.heap.size W0 wx)
      case first =>
       clear hmm
       by_cases hk0 : k = 0
       ·
        have q4 : decide ((0 : Int) < (k : Int)) = false := by subst hk0; rfl
        have q5 : ¬ (0 < k) := by omega
        have q6 : ¬ ((0 : Int) < (k : Int)) := by omega
        have Hk0 := Lib.hid hk0; clear hk0
        refine wp_region_held_drew (S := fun W => W.cell? ⟨bx, 0, none⟩ = some (.int .i64 d.side) ∧ W.cell? ⟨bx, 1, none⟩ = some (.int .i64 d.play) ∧ W.cell? ⟨bx, 2, none⟩ = some (.int .i64 d.slot) ∧ W.cell? ⟨bx, 3, none⟩ = some (.string d.name) ∧ W.cell? ⟨bx, 4, none⟩ = some (.int .i64 d.pos)) (by kernel_rfl) (⟨x0, x1, x2, x3, x4⟩) (fun hHeld => ?_)
        refine tkE (i := 0) rfl ?_
        refine tkE (i := 2) rfl ?_
        refine tkE (i := 3) rfl ?_
        refine rdE (i := 1) rfl (fun K hK => ?_)
        go_simp
        (refine (checkC_any d _).mono ?_; rintro e w2 ⟨rfl, hb2⟩; have k1 := bcell hb2)
        go_wp2_with fail
        refine onE hK (⟨(k1 _ _ hbx).trans x0, (k1 _ _ hbx).trans x1, (k1 _ _ hbx).trans x2, (k1 _ _ hbx).trans x3, (k1 _ _ hbx).trans x4⟩) (fun hHeld => ?_)
        clear hK K
        refine tkE (i := 4) rfl ?_
        refine skE (i := 5) rfl ?_
        refine skE (i := 6) rfl ?_
        refine skE (i := 7) rfl ?_
        refine skE (i := 8) rfl ?_
        refine skE (i := 9) rfl ?_
        refine skE (i := 10) rfl ?_
        refine skE (i := 11) rfl ?_
        refine skE (i := 12) rfl ?_
        refine skE (i := 13) rfl ?_
        refine tkE (i := 14) rfl ?_
        refine rdE (i := 15) rfl (fun K hK => ?_)
        go_simp
        (refine (when_any _ _ _).mono ?_; rintro e w' ⟨rfl, rfl⟩)
        go_wp2_with fail
        refine onE hK (hHeld) (fun hHeld => ?_)
        clear hK K
        have hq : bx < w2.heap.size := by have := hb2.size; simp at this; omega
        have hal : ∀ o i, (w2.alloc o).cell? ⟨bx, i, none⟩ = w2.cell? ⟨bx, i, none⟩ := fun o i => World.cell?_alloc_lt _ _ _ hq
        refine rdE (i := 16) rfl (fun K hK => ?_)
        go_simp
        refine onE hK (⟨(hal _ 0).trans hHeld.1, (hal _ 1).trans hHeld.2.1, (hal _ 2).trans hHeld.2.2.1, (hal _ 3).trans hHeld.2.2.2.1, (hal _ 4).trans hHeld.2.2.2.2⟩) (fun hHeld => ?_)
        clear hK K
        refine rdE (i := 17) rfl (fun K hK => ?_)
        go_simp
        (refine (first2 _ _ _ _ _ _ (by exact heap_alloc_new _ _)).mono ?_; rintro e w' ⟨rfl, rfl⟩)
        go_wp2_with fail
        refine onE hK (hHeld) (fun hHeld => ?_)
        clear hK K
        refine rdE (i := 18) rfl (fun K hK => ?_)
        go_simp
        refine onE hK (hHeld) (fun hHeld => ?_)
        clear hK K
        refine wpAnyH_done (by kernel_rfl) ?_ _
        go_wp2
        go_meet
        case rel =>
         refine ⟨?_, bt_alloc (bt_trans (bt_drew (Below.refl _ _)) hb2) _⟩
         rw [Hk0.out]; rfl
       ·
        obtain ⟨q, rfl⟩ : ∃ q, k = q + 1 := ⟨k - 1, by omega⟩
        obtain ⟨b', off', hbb, hc'⟩ := Hl.out q (by rw [Hn.out]; omega)
        cases hbb
        have hcell : ∀ j, j < 5 → W0.cell? ⟨b, off + q * 5 + j, none⟩ = (l.getD q ⟨0, 0, 0, .empty, 0⟩).val[j]? := fun j hj => by
         rw [F0.out.1.cell (p := ⟨b, off + q * 5 + j, none⟩) hb0]; exact hc' j hj
        generalize hd' : l.getD q ⟨0, 0, 0, .empty, 0⟩ = d' at hcell
        have Hd' := Lib.hid hd'; clear hd' hc'
        have y0 : W0.cell? ⟨b, off + q * 5, none⟩ = some (.int .i64 d'.side) := hcell 0 (by omega)
        have y1 : W0.cell? ⟨b, off + q * 5 + 1, none⟩ = some (.int .i64 d'.play) := hcell 1 (by omega)
        have y2 : W0.cell? ⟨b, off + q * 5 + 2, none⟩ = some (.int .i64 d'.slot) := hcell 2 (by omega)
        have y3 : W0.cell? ⟨b, off + q * 5 + 3, none⟩ = some (.string d'.name) := hcell 3 (by omega)
        have y4 : W0.cell? ⟨b, off + q * 5 + 4, none⟩ = some (.int .i64 d'.pos) := hcell 4 (by omega)
        have hbo : b < W0.heap.size := by omega
        clear hcell
        have q0 : (0 : Int) ≤ (q : Int) := by omega
        have q1 : (0 : Int) < (q : Int) + 1 := by omega
        have q2 : (q : Int) < (n : Int) := by omega
        have q3 : max (0 : Int) (q : Int) = (q : Int) := by omega
        have q4 : decide ((0 : Int) < (q : Int) + 1) = true := decide_eq_true q1
        have q5 : IntKind.i64.wrap ((q : Int) + 1 - 1) = (q : Int) := by rw [IntWalk.i64_in _ (by omega)]; omega
        have q6 : IntKind.i64.wrap (q : Int) = (q : Int) := IntWalk.i64_in _ (by omega)
        go_region_held3 (fun W => (W.cell? ⟨bx, 0, none⟩ = some (.int .i64 d.side) ∧ W.cell? ⟨bx, 1, none⟩ = some (.int .i64 d.play) ∧ W.cell? ⟨bx, 2, none⟩ = some (.int .i64 d.slot) ∧ W.cell? ⟨bx, 3, none⟩ = some (.string d.name) ∧ W.cell? ⟨bx, 4, none⟩ = some (.int .i64 d.pos)) ∧ W.cell? ⟨b, off + q * 5, none⟩ = some (.int .i64 d'.side) ∧ W.cell? ⟨b, off + q * 5 + 1, none⟩ = some (.int .i64 d'.play) ∧ W.cell? ⟨b, off + q * 5 + 2, none⟩ = some (.int .i64 d'.slot) ∧ W.cell? ⟨b, off + q * 5 + 3, none⟩ = some (.string d'.name) ∧ W.cell? ⟨b, off + q * 5 + 4, none⟩ = some (.int .i64 d'.pos))
         (first | exact e4 _ | exact e3 | exact e2 | go_keep)
         (first
          | (go_at_call 118; refine (checkC_any d _).mono ?_; rintro e w2 ⟨rfl, hb2⟩; have k1 := bcell hb2; have z1 : W0.heap.size ≤ w2.heap.size := hb2.size; have u1 : bx < w2.heap.size := Nat.lt_of_lt_of_le hbx z1; have u2 : b < w2.heap.size := Nat.lt_of_lt_of_le hbo z1; have e2 : (w2.cell? ⟨bx, 0, none⟩ = some (.int .i64 d.side) ∧ w2.cell? ⟨bx, 1, none⟩ = some (.int .i64 d.play) ∧ w2.cell? ⟨bx, 2, none⟩ = some (.int .i64 d.slot) ∧ w2.cell? ⟨bx, 3, none⟩ = some (.string d.name) ∧ w2.cell? ⟨bx, 4, none⟩ = some (.int .i64 d.pos)) ∧ w2.cell? ⟨b, off + q * 5, none⟩ = some (.int .i64 d'.side) ∧ w2.cell? ⟨b, off + q * 5 + 1, none⟩ = some (.int .i64 d'.play) ∧ w2.cell? ⟨b, off + q * 5 + 2, none⟩ = some (.int .i64 d'.slot) ∧ w2.cell? ⟨b, off + q * 5 + 3, none⟩ = some (.string d'.name) ∧ w2.cell? ⟨b, off + q * 5 + 4, none⟩ = some (.int .i64 d'.pos) := ⟨⟨(k1 _ _ hbx).trans x0, (k1 _ _ hbx).trans x1, (k1 _ _ hbx).trans x2, (k1 _ _ hbx).trans x3, (k1 _ _ hbx).trans x4⟩, (k1 _ _ hbo).trans y0, (k1 _ _ hbo).trans y1, (k1 _ _ hbo).trans y2, (k1 _ _ hbo).trans y3, (k1 _ _ hbo).trans y4⟩; clear k1)
          | (go_at_call 119; refine (compareC_any d d' _).mono ?_; rintro e w3 ⟨rfl, hb3⟩; have k3 := bcell hb3; have z3 : w2.heap.size ≤ w3.heap.size := hb3.size; have u3 : bx < w3.heap.size := Nat.lt_of_lt_of_le u1 z3; have u4 : b < w3.heap.size := Nat.lt_of_lt_of_le u2 z3; have e3 : (w3.cell? ⟨bx, 0, none⟩ = some (.int .i64 d.side) ∧ w3.cell? ⟨bx, 1, none⟩ = some (.int .i64 d.play) ∧ w3.cell? ⟨bx, 2, none⟩ = some (.int .i64 d.slot) ∧ w3.cell? ⟨bx, 3, none⟩ = some (.string d.name) ∧ w3.cell? ⟨bx, 4, none⟩ = some (.int .i64 d.pos)) ∧ w3.cell? ⟨b, off + q * 5, none⟩ = some (.int .i64 d'.side) ∧ w3.cell? ⟨b, off + q * 5 + 1, none⟩ = some (.int .i64 d'.play) ∧ w3.cell? ⟨b, off + q * 5 + 2, none⟩ = some (.int .i64 d'.slot) ∧ w3.cell? ⟨b, off + q * 5 + 3, none⟩ = some (.string d'.name) ∧ w3.cell? ⟨b, off + q * 5 + 4, none⟩ = some (.int .i64 d'.pos) := ⟨⟨(k3 _ _ u1).trans e2.1.1, (k3 _ _ u1).trans e2.1.2.1, (k3 _ _ u1).trans e2.1.2.2.1, (k3 _ _ u1).trans e2.1.2.2.2.1, (k3 _ _ u1).trans e2.1.2.2.2.2⟩, (k3 _ _ u2).trans e2.2.1, (k3 _ _ u2).trans e2.2.2.1, (k3 _ _ u2).trans e2.2.2.2.1, (k3 _ _ u2).trans e2.2.2.2.2.1, (k3 _ _ u2).trans e2.2.2.2.2.2⟩; have e4 : ∀ o, ((w3.alloc o).cell? ⟨bx, 0, none⟩ = some (.int .i64 d.side) ∧ (w3.alloc o).cell? ⟨bx, 1, none⟩ = some (.int .i64 d.play) ∧ (w3.alloc o).cell? ⟨bx, 2, none⟩ = some (.int .i64 d.slot) ∧ (w3.alloc o).cell? ⟨bx, 3, none⟩ = some (.string d.name) ∧ (w3.alloc o).cell? ⟨bx, 4, none⟩ = some (.int .i64 d.pos)) ∧ (w3.alloc o).cell? ⟨b, off + q * 5, none⟩ = some (.int .i64 d'.side) ∧ (w3.alloc o).cell? ⟨b, off + q * 5 + 1, none⟩ = some (.int .i64 d'.play) ∧ (w3.alloc o).cell? ⟨b, off + q * 5 + 2, none⟩ = some (.int .i64 d'.slot) ∧ (w3.alloc o).cell? ⟨b, off + q * 5 + 3, none⟩ = some (.string d'.name) ∧ (w3.alloc o).cell? ⟨b, off + q * 5 + 4, none⟩ = some (.int .i64 d'.pos) := fun o => ⟨⟨(World.cell?_alloc_lt _ _ _ u3).trans e3.1.1, (World.cell?_alloc_lt _ _ _ u3).trans e3.1.2.1, (World.cell?_alloc_lt _ _ _ u3).trans e3.1.2.2.1, (World.cell?_alloc_lt _ _ _ u3).trans e3.1.2.2.2.1, (World.cell?_alloc_lt _ _ _ u3).trans e3.1.2.2.2.2⟩, (World.cell?_alloc_lt _ _ _ u4).trans e3.2.1, (World.cell?_alloc_lt _ _ _ u4).trans e3.2.2.1, (World.cell?_alloc_lt _ _ _ u4).trans e3.2.2.2.1, (World.cell?_alloc_lt _ _ _ u4).trans e3.2.2.2.2.1, (World.cell?_alloc_lt _ _ _ u4).trans e3.2.2.2.2.2⟩; clear k3)
          | (go_at_call 68; refine (when_any _ _ _).mono ?_; rintro e w' ⟨rfl, rfl⟩)
          | (go_at_call 89; refine (first2 _ _ _ _ _ _ (by exact heap_alloc_new _ _)).mono ?_; rintro e w' ⟨rfl, rfl⟩))
        go_wp2
        go_meet
        case rel =>
         refine ⟨?_, bt_alloc (bt_trans (bt_trans (bt_drew (Below.refl _ _)) hb2) hb3) _⟩
         rw [cmpC_after]
         simp only [pv, late]
         rw [if_neg (by omega), Nat.add_sub_cancel, Hd'.out]
      case rest =>
       obtain ⟨hs13, hwx⟩ := hcut
       have F1 : Hid (Below w.heap.size w wc ∧ Bk wc w.heap.size 54 T1.cells.toArray ∧ Seen wc m known ∧ Bk wc bx 142 #[.int .i64 d.side, .int .i64 d.play, .int .i64 d.slot, .string d.name, .int .i64 d.pos]) :=
        ⟨bt_trans F0.out.1 hwx, F0.out.2.1.below hwx F0.out.2.1.lt, F0.out.2.2.1.below hwx F0.out.2.2.1.lt, F0.out.2.2.2.below hwx hbx⟩
       have c0 : wc.cell? ⟨bx, 0, none⟩ = some (.int .i64 d.side) := by rw [F1.out.2.2.2.cell]; rfl
       have c1 : wc.cell? ⟨bx, 1, none⟩ = some (.int .i64 d.play) := by rw [F1.out.2.2.2.cell]; rfl
       have c2 : wc.cell? ⟨bx, 2, none⟩ = some (.int .i64 d.slot) := by rw [F1.out.2.2.2.cell]; rfl
       have c3 : wc.cell? ⟨bx, 3, none⟩ = some (.string d.name) := by rw [F1.out.2.2.2.cell]; rfl
       have c4 : wc.cell? ⟨bx, 4, none⟩ = some (.int .i64 d.pos) := by rw [F1.out.2.2.2.cell]; rfl
       clear x0 x1 x2 x3 x4 F0 hwx hbx
       have Hres : Hid (checkChanges t l = ccLoop T1 known (pv l k) (d :: l.drop (k + 1))) := by
        show _ = _
        rw [HH.out, Hcc.out, Hdr.out]
       clear Hcc
       by_cases hE2 : firstE [checkC d, whenE (late d (pv l k)) 11] = 0
       ·
        have hz2 : (firstE [checkC d, whenE (late d (pv l k)) 11] != 0) = false := by simpa using hE2
        obtain ⟨hcc0, hlt0⟩ : checkC d = 0 ∧ late d (pv l k) = false := by
         obtain ⟨h1, h2⟩ := firstE2 hE2
         refine ⟨h1, ?_⟩
         cases h : late d (pv l k)
         ·
          rfl
         ·
          rw [h] at h2; simp [whenE] at h2
        obtain ⟨hsd, _, hsl, _, hnm⟩ := checkC_zero hcc0
        have hnsz : d.name.size ≤ maxLen := by have := isName_size hnm; unfold maxLen; omega
        have sd0 : (0 : Int) ≤ d.side := by omega
        have sd1 : d.side < 2 := by omega
        have HE2 := Lib.hid hE2; clear hE2
        have Hnsz := Lib.hid hnsz; have Hsd := Lib.hid hsd; have Hsl := Lib.hid hsl; have Hnm := Lib.hid hnm; have Hcc0 := Lib.hid hcc0; have Hlt0 := Lib.hid hlt0
        clear hnsz hsd hsl hnm hcc0 hlt0
        subst hs13
        go_upto_region 21 with (first
         | (go_at_call 73; refine (player_any T1 Ht1.out _ _ _ Hsd.out Hsl.out.1 Hsl.out.2 _ (by exact F1.out.2.1)).mono ?_; rintro e w2 ⟨rfl, nn, rfl⟩))
        have F2 : Hid (Below w.heap.size w (wc.drewN nn) ∧ Bk (wc.drewN nn) w.heap.size 54 T1.cells.toArray ∧ Seen (wc.drewN nn) m known ∧ Bk (wc.drewN nn) bx 142 d.val) :=
         ⟨bt_drewN F1.out.1 _, F1.out.2.1.drewN _, F1.out.2.2.1.drewN _, F1.out.2.2.2.drewN _⟩
        clear c0 c1 c2 c3 c4 F1
        generalize wc.drewN nn = W2 at F2 ⊢
        have c0 : W2.cell? ⟨bx, 0, none⟩ = some (.int .i64 d.side) := by rw [F2.out.2.2.2.cell]; rfl
        have hX : (T1.get d.side).ok := by
         unfold Tms.get
         split
         ·
          exact Ht1.out.1
         ·
          exact Ht1.out.2
        have hrg := Tms.rangeG F2.out.2.1 Ht1.out Hsd.out
        have Hrg := Lib.hid hrg; clear hrg
        generalize hXe : T1.get d.side = X at hX Hrg ⊢
        have HXe := Lib.hid hXe; have HX := Lib.hid hX; clear hXe hX
        have Hth := Lib.hid (store33_there W2 X HX.out); have Hone := Lib.hid (LU.oneCell X); have Hi33 := Lib.hid (LU.info33 X HX.out)
        have Hi33' : Hid ((Tryz.prog.info? 33).map (·.size) = some X.cells.length) := by
         show _ = _
         rw [Hi33.out]; simp
        go_upto_region 22 with (first
         | (refine wpList_load_cells rfl 33 _ rfl w.heap.size (d.side.toNat * 18) rfl X.cells Hrg.out _ Tryz.underlying33 rfl Hi33'.out ?_)
         | (refine wp_store_mid 33 (.tmp 16) (.tmp 83) rfl W2.heap.size 0 X.cells.toArray rfl rfl Hth.out Hi33.out Hone.out ?_)
         | (refine wpList_store_mid rfl 33 (.tmp 16) (.tmp 83) rfl W2.heap.size 0 X.cells.toArray rfl rfl Hth.out Hi33.out Hone.out ?_))
        have hbl := bts_below (bt_new W2 (.cells #[.string { data := #[] }, .string { data := #[] }, .string { data := #[] }, .string { data := #[] }, .string { data := #[] }, .string { data := #[] }, .string { data := #[] }, .string { data := #[] }, .string { data := #[] }, .int .i64 0, .int .i64 0, .int .i64 0, .int .i64 0, .int .i64 0, .int .i64 0, .int .i64 0, .int .i64 0, .int .i64 0] 33)) X.cells.toArray.toList 0
        have hb2 := F2.out.2.1.lt
        have F3 : Hid (Below w.heap.size w ((W2.alloc (.cells #[.string { data := #[] }, .string { data := #[] }, .string { data := #[] }, .string { data := #[] }, .string { data := #[] }, .string { data := #[] }, .string { data := #[] }, .string { data := #[] }, .string { data := #[] }, .int .i64 0, .int .i64 0, .int .i64 0, .int .i64 0, .int .i64 0, .int .i64 0, .int .i64 0, .int .i64 0, .int .i64 0] 33)).setCells W2.heap.size 0 X.cells.toArray.toList) ∧ Bk ((W2.alloc (.cells #[.string { data := #[] }, .string { data := #[] }, .string { data := #[] }, .string { data := #[] }, .string { data := #[] }, .string { data := #[] }, .string { data := #[] }, .string { data := #[] }, .string { data := #[] }, .int .i64 0, .int .i64 0, .int .i64 0, .int .i64 0, .int .i64 0, .int .i64 0, .int .i64 0, .int .i64 0, .int .i64 0] 33)).setCells W2.heap.size 0 X.cells.toArray.toList) w.heap.size 54 T1.cells.toArray ∧ Seen ((W2.alloc (.cells #[.string { data := #[] }, .string { data := #[] }, .string { data := #[] }, .string { data := #[] }, .string { data := #[] }, .string { data := #[] }, .string { data := #[] }, .string { data := #[] }, .string { data := #[] }, .int .i64 0, .int .i64 0, .int .i64 0, .int .i64 0, .int .i64 0, .int .i64 0, .int .i64 0, .int .i64 0, .int .i64 0] 33)).setCells W2.heap.size 0 X.cells.toArray.toList) m known ∧ Bk ((W2.alloc (.cells #[.string { data := #[] }, .string { data := #[] }, .string { data := #[] }, .string { data := #[] }, .string { data := #[] }, .string { data := #[] }, .string { data := #[] }, .string { data := #[] }, .string { data := #[] }, .int .i64 0, .int .i64 0, .int .i64 0, .int .i64 0, .int .i64 0, .int .i64 0, .int .i64 0, .int .i64 0, .int .i64 0] 33)).setCells W2.heap.size 0 X.cells.toArray.toList) bx 142 d.val ∧ World.rangeAt ((W2.alloc (.cells #[.string { data := #[] }, .string { data := #[] }, .string { data := #[] }, .string { data := #[] }, .string { data := #[] }, .string { data := #[] }, .string { data := #[] }, .string { data := #[] }, .string { data := #[] }, .int .i64 0, .int .i64 0, .int .i64 0, .int .i64 0, .int .i64 0, .int .i64 0, .int .i64 0, .int .i64 0, .int .i64 0] 33)).setCells W2.heap.size 0 X.cells.toArray.toList) W2.heap.size 0 X.cells) :=
         ⟨bt_trans F2.out.1 hbl, F2.out.2.1.below hbl F2.out.2.1.lt, F2.out.2.2.1.below hbl F2.out.2.2.1.lt, F2.out.2.2.2.below hbl F2.out.2.2.2.lt, store33_range W2 X HX.out⟩
        clear hbl F2 Hrg Hth c0
        generalize ((W2.alloc (.cells #[.string { data := #[] }, .string { data := #[] }, .string { data := #[] }, .string { data := #[] }, .string { data := #[] }, .string { data := #[] }, .string { data := #[] }, .string { data := #[] }, .string { data := #[] }, .int .i64 0, .int .i64 0, .int .i64 0, .int .i64 0, .int .i64 0, .int .i64 0, .int .i64 0, .int .i64 0, .int .i64 0] 33)).setCells W2.heap.size 0 X.cells.toArray.toList) = W3 at F3 ⊢
        generalize W2.heap.size = gx at F3 hb2 ⊢
        have c0 : W3.cell? ⟨bx, 0, none⟩ = some (.int .i64 d.side) := by rw [F3.out.2.2.2.1.cell]; rfl
        have c1 : W3.cell? ⟨bx, 1, none⟩ = some (.int .i64 d.play) := by rw [F3.out.2.2.2.1.cell]; rfl
        have c2 : W3.cell? ⟨bx, 2, none⟩ = some (.int .i64 d.slot) := by rw [F3.out.2.2.2.1.cell]; rfl
        have c3 : W3.cell? ⟨bx, 3, none⟩ = some (.string d.name) := by rw [F3.out.2.2.2.1.cell]; rfl
        have c4 : W3.cell? ⟨bx, 4, none⟩ = some (.int .i64 d.pos) := by rw [F3.out.2.2.2.1.cell]; rfl
        have hxm : bx ≠ w.heap.size := by omega
        go_upto_region 23 with (first
         | (go_at_call 81; refine (make_any T1 Ht1.out w.heap.size d Hsd.out Hsl.out.1 Hsl.out.2 _ (by exact F3.out.2.1)).mono ?_; rintro e W4 ⟨rfl, hmk, hmg⟩))
        have hgx : gx < W3.heap.size := World.block_lt_of_cell? W3 ⟨gx, 0 + 0, none⟩ (u := .string (X.b.getD 0 .empty)) (F3.out.2.2.2.2 0 _ (by
         have := HX.out
         simp only [LU.cells]
         rw [List.getElem?_append_left (by simp [this.1]), getD_map_str _ _ (by rw [this.1]; omega)]))
        have F4 : Hid (Below w.heap.size w W4 ∧ Bk W4 w.heap.size 54 (T1.made d).cells.toArray ∧ Seen W4 m known ∧ Bk W4 bx 142 d.val ∧ World.rangeAt W4 gx 0 X.cells) :=
         ⟨F3.out.1.grown hmg F3.out.1.size (fun q hq => by cases hq; omega), hmk, F3.out.2.2.1.kept hmg (by intro e; cases e; omega), (hmg.block _ F3.out.2.2.2.1.lt (by intro e; cases e; omega)).trans F3.out.2.2.2.1, fun j v hv => hmg.cell (F3.out.2.2.2.2 j v hv) (fun e => (Nat.ne_of_gt hb2) (Option.some.inj e))⟩
        clear F3 hmk hmg c0 c1 c2 c3 c4 hgx
        have c0 : W4.cell? ⟨bx, 0, none⟩ = some (.int .i64 d.side) := by rw [F4.out.2.2.2.1.cell]; rfl
        have c1 : W4.cell? ⟨bx, 1, none⟩ = some (.int .i64 d.play) := by rw [F4.out.2.2.2.1.cell]; rfl
        have c3 : W4.cell? ⟨bx, 3, none⟩ = some (.string d.name) := by rw [F4.out.2.2.2.1.cell]; rfl
        have hT2 : (T1.made d).ok := Tms.made_ok T1 Ht1.out d
        have hY : ((T1.made d).get d.side).ok := by
         unfold Tms.get
         split
         ·
          exact hT2.1
         ·
          exact hT2.2
        have hsame : (T1.made d).get d.side = X ↔ X.bat d.slot = d.name ∧ X.at_ d.slot = d.pos := by
         rw [← HXe.out]; exact made_same T1 Ht1.out d Hsd.out Hsl.out
        have hrg := Tms.rangeG F4.out.2.1 hT2 Hsd.out
        have hnine : ∀ n ∈ ((T1.made d).get d.side).p, 1 ≤ n ∧ n ≤ 9 := inR_get _ (made_inR T1 Hin.out d (checkC_zero Hcc0.out).2.2.2.1) _
        have Hrg := Lib.hid hrg; clear hrg
        generalize hYe : (T1.made d).get d.side = Y at hY Hrg hsame hnine
        have heq33 : ∀ W, (binOp .eql 33 (.agg Y.cells.toArray) (.agg X.cells.toArray)).run Tryz.prog W = .ok (.bool (decide (Y = X))) W := fun W => op_eql33 W Y X hY HX.out
        have Hrx : Hid (∀ j, j < X.cells.length → W4.cell? ⟨gx, 0 + j, none⟩ = X.cells[j]?) := fun j hj => by
         rw [List.getElem?_eq_getElem hj]; exact F4.out.2.2.2.2 j _ (List.getElem?_eq_getElem hj)
        have Hry : Hid (World.rangeAt W4 w.heap.size (d.side.toNat * 18) Y.cells) := fun j v hv => by
         have hj := (List.getElem?_eq_some_iff.1 hv).1
         rw [Hrg.out j hj]; exact hv
        have Hiy : Hid ((Tryz.prog.info? 33).map (·.size) = some Y.cells.length) := by
         show _ = _
         rw [LU.info33 Y hY]; simp
        have HYe := Lib.hid hYe; have HY := Lib.hid hY; have HT2 := Lib.hid hT2; have Hsame := Lib.hid hsame; have Hnine := Lib.hid hnine; clear hYe hY hT2 hsame hnine
        by_cases hA : decide (Y = X) = true
        ·
         skip
         refine wp_region_held_drew (S := fun W => W.cell? ⟨bx, 0, none⟩ = some (.int .i64 d.side) ∧ W.rangeAt w.heap.size (d.side.toNat * 18) Y.cells ∧ W.rangeAt gx 0 X.cells) (by kernel_rfl) (⟨c0, Hry.out, F4.out.2.2.2.2⟩) (fun hHeld => ?_)
         refine tkE (i := 0) rfl ?_
         refine tkE (i := 1) rfl ?_
         refine tkE (i := 2) rfl ?_
         refine ldE (i := 3) rfl rfl rfl (Y.cells) (fun W h => h.2.1) Tryz.underlying33 rfl (Hiy.out) ?_
         refine ldE (i := 4) rfl rfl rfl (X.cells) (fun W h => h.2.2) Tryz.underlying33 rfl (Hi33'.out) ?_
         refine tkE (i := 5) rfl ?_
         refine wpAnyH_done (by kernel_rfl) ?_ _
         go_wp2
         go_ret
         refine ⟨ret_int ?_, bt_drew F4.out.1⟩
         rw [Hres.out, ccLoop, if_neg (by rw [Hcc0.out]; simp), Hlt0.out]
         rw [HXe.out, if_neg (by simp), if_pos (Hsame.out.1 (by simpa using hA))]
        ·
         have hA' : decide (Y = X) = false := by simpa using hA
         refine wp_region_held_drew (S := fun W => W.cell? ⟨bx, 0, none⟩ = some (.int .i64 d.side) ∧ W.rangeAt w.heap.size (d.side.toNat * 18) Y.cells ∧ W.rangeAt gx 0 X.cells) (by kernel_rfl) (⟨c0, Hry.out, F4.out.2.2.2.2⟩) (fun hHeld => ?_)
         refine tkE (i := 0) rfl ?_
         refine tkE (i := 1) rfl ?_
         refine tkE (i := 2) rfl ?_
         refine ldE (i := 3) rfl rfl rfl (Y.cells) (fun W h => h.2.1) Tryz.underlying33 rfl (Hiy.out) ?_
         refine ldE (i := 4) rfl rfl rfl (X.cells) (fun W h => h.2.2) Tryz.underlying33 rfl (Hi33'.out) ?_
         refine tkE (i := 5) rfl ?_
         refine wpAnyH_done (by kernel_rfl) ?_ _
         go_upto_region 25 with fail
         have F5 : Hid (Below w.heap.size w W4.drew ∧ Bk W4.drew w.heap.size 54 (T1.made d).cells.toArray ∧ Seen W4.drew m known ∧ Bk W4.drew bx 142 d.val) := ⟨bt_drew F4.out.1, F4.out.2.1.drew, F4.out.2.2.1.drew, F4.out.2.2.2.1.drew⟩
         clear F4 c0 c1 c3 Hrg Hry Hrx heq33 Hi33 Hi33' Hone
         generalize W4.drew = W5 at F5 ⊢
         have c3 : W5.cell? ⟨bx, 3, none⟩ = some (.string d.name) := by rw [F5.out.2.2.2.cell]; rfl
         have hlk := F5.out.2.2.1.look d.name Hnsz.out
         go_cut [101] (fun s101 wx => s101 = .bool (decide (X.bat d.slot ≠ d.name) && decide (d.name ∈ known)) ∧ wx = W5)
         case first =>
          by_cases hB1 : X.bat d.slot = d.name
          ·
           have hb1 := tl_eq hB1
           have hB1' : decide (X.bat d.slot ≠ d.name) = false := by simpa using hB1
           clear hB1
           go_wp2
           go_meet
           case rel => exact ⟨by rw [hB1']; first | rfl | (rw [hb1]; rfl), rfl⟩
          ·
           have hb1 := tl_ne hB1
           have hB1' : decide (X.bat d.slot ≠ d.name) = true := by simpa using hB1
           clear hB1
           have hq : decide (d.name ∈ known) = true ∨ decide (d.name ∈ known) = false := by cases decide (d.name ∈ known) <;> simp
           rcases hq with hq | hq
           ·
            rw [hq] at hlk
            go_wp2
            go_meet
            case rel => exact ⟨by rw [hB1', hq]; first | rfl | (rw [hb1]; rfl), rfl⟩
           ·
            rw [hq] at hlk
            go_wp2
            go_meet
            case rel => exact ⟨by rw [hB1', hq]; first | rfl | (rw [hb1]; rfl), rfl⟩
         case rest =>
          obtain ⟨h101, hwc⟩ := hcut
          subst hwc
          clear c3 hlk
          have hnsame : ¬ (X.bat d.slot = d.name ∧ X.at_ d.slot = d.pos) := fun h => by
           have := Hsame.out.2 h
           rw [this] at hA'; simp at hA'
          have Hns := Lib.hid hnsame; clear hnsame hA hA'
          generalize hC : (decide (X.bat d.slot ≠ d.name) && decide (d.name ∈ known)) = C at h101
          have hcond : C = true ↔ (X.bat d.slot ≠ d.name ∧ d.name ∈ known) := by rw [← hC]; simp
          clear hC
          have Hcond := Lib.hid hcond; clear hcond
          cases C with
          | true =>
           have H24 := Lib.hid (Hcond.out.1 rfl)
           subst h101
           go_wp2
           go_ret
           refine ⟨ret_int ?_, F5.out.1⟩
           rw [Hres.out, ccLoop, if_neg (by rw [Hcc0.out]; simp), Hlt0.out, HXe.out, if_neg (by simp), if_neg Hns.out, if_pos H24.out]
          | false =>
           have hstep : ∀ (E : Bool), ends d (l.drop (k + 1)) = E → checkChanges t l = if E = true ∧ ¬ Y.p.Nodup then 29 else ccLoop (T1.made d) (known ++ [d.name]) (some d) (l.drop (k + 1)) := fun E hE => by
            rw [Hres.out, ccLoop, if_neg (by rw [Hcc0.out]; simp), Hlt0.out, HXe.out, if_neg (by simp), if_neg Hns.out, if_neg (fun h => by have := Hcond.out.2 h; cases this), HYe.out, hE]
           have Hstep := Lib.hid hstep; clear hstep
           subst h101
           have c3 : wc.cell? ⟨bx, 3, none⟩ = some (.string d.name) := by rw [F5.out.2.2.2.cell]; rfl
           have hmw := F5.out.2.2.1.lt
           have hkl : known.length < maxLen := by have := Hkl.out; unfold maxLen; omega
           have hbxw := F5.out.2.2.2.lt
           go_upto_region 28 with (first
            | (refine wpList_store_seen _ rfl (.tmp 102) (.tmp 104) (.const (.bool true)) rfl m _ rfl d.name rfl rfl F5.out.2.2.1 Hnsz.out hkl ?_; intro W6 hs6 hg6))
           have F6 : Hid (Below w.heap.size w W6 ∧ Bk W6 w.heap.size 54 (T1.made d).cells.toArray ∧ Seen W6 m (known ++ [d.name]) ∧ Bk W6 bx 142 d.val) :=
            ⟨F5.out.1.grown hg6 F5.out.1.size (fun q hq => by cases hq; omega), (hg6.block _ F5.out.2.1.lt (by intro e; cases e; omega)).trans F5.out.2.1, hs6, (hg6.block _ F5.out.2.2.2.lt (by intro e; cases e; omega)).trans F5.out.2.2.2⟩
           clear F5 c3 hs6 hg6 hmw hkl
           obtain ⟨j, hjn, hjmin, hjk⟩ : ∃ j : Nat, j < n ∧ min ((k : Int) + 1) ((n : Int) - 1) = (j : Int) ∧ (k + 1 < n → j = k + 1) := by
            by_cases h : k + 1 < n
            ·
             exact ⟨k + 1, h, by omega, fun _ => rfl⟩
            ·
             exact ⟨n - 1, by omega, by omega, fun h' => absurd h' h⟩
           obtain ⟨b', off', hbb, hce⟩ := Hl.out j (by rw [Hn.out]; exact hjn)
           cases hbb
           have hcell : ∀ i, i < 5 → W6.cell? ⟨b, off + j * 5 + i, none⟩ = (l.getD j ⟨0, 0, 0, .empty, 0⟩).val[i]? := fun i hi => by
            rw [F6.out.1.cell (p := ⟨b, off + j * 5 + i, none⟩) hb0]; exact hce i hi
           have hends : k + 1 < n → ends d (l.drop (k + 1)) = ((l.getD j ⟨0, 0, 0, .empty, 0⟩).play != d.play || (l.getD j ⟨0, 0, 0, .empty, 0⟩).side != d.side) := fun h => by
            have hkl : k + 1 < l.length := by rw [Hn.out]; exact h
            rw [hjk h, List.drop_eq_getElem_cons hkl]
            simp [ends, List.getD, List.getElem?_eq_getElem hkl]
           generalize l.getD j ⟨0, 0, 0, .empty, 0⟩ = e at hcell hends
           have Hends := Lib.hid hends; clear hends hce
           have y0 : W6.cell? ⟨b, off + j * 5, none⟩ = some (.int .i64 e.side) := hcell 0 (by omega)
           have y1 : W6.cell? ⟨b, off + j * 5 + 1, none⟩ = some (.int .i64 e.play) := hcell 1 (by omega)
           have y2 : W6.cell? ⟨b, off + j * 5 + 2, none⟩ = some (.int .i64 e.slot) := hcell 2 (by omega)
           have y3 : W6.cell? ⟨b, off + j * 5 + 3, none⟩ = some (.string e.name) := hcell 3 (by omega)
           have y4 : W6.cell? ⟨b, off + j * 5 + 4, none⟩ = some (.int .i64 e.pos) := hcell 4 (by omega)
           clear hcell
           have q1 : IntKind.i64.wrap ((k : Int) + 1) = (k : Int) + 1 := IntWalk.i64_in _ (by omega)
           have q2 : IntKind.i64.wrap ((n : Int) - 1) = (n : Int) - 1 := IntWalk.i64_in _ (by omega)
           have q3 : (0 : Int) ≤ (j : Int) := by omega
           have q4 : (j : Int) < (n : Int) := by omega
           have hkx := Bk.new W6 142 #[.int .i64 e.side, .int .i64 e.play, .int .i64 e.slot, .string e.name, .int .i64 e.pos]
           have F7 : Hid (Below w.heap.size w (W6.alloc (.cells #[.int .i64 e.side, .int .i64 e.play, .int .i64 e.slot, .string e.name, .int .i64 e.pos] 142)) ∧ Bk (W6.alloc (.cells #[.int .i64 e.side, .int .i64 e.play, .int .i64 e.slot, .string e.name, .int .i64 e.pos] 142)) w.heap.size 54 (T1.made d).cells.toArray ∧ Seen (W6.alloc (.cells #[.int .i64 e.side, .int .i64 e.play, .int .i64 e.slot, .string e.name, .int .i64 e.pos] 142)) m (known ++ [d.name]) ∧ Bk (W6.alloc (.cells #[.int .i64 e.side, .int .i64 e.play, .int .i64 e.slot, .string e.name, .int .i64 e.pos] 142)) bx 142 d.val ∧ Bk (W6.alloc (.cells #[.int .i64 e.side, .int .i64 e.play, .int .i64 e.slot, .string e.name, .int .i64 e.pos] 142)) W6.heap.size 142 e.val) :=
            ⟨bt_alloc F6.out.1 _, F6.out.2.1.alloc _, F6.out.2.2.1.alloc _, F6.out.2.2.2.alloc _, hkx⟩
           clear F6 hkx
           go_upto_region 29 with fail
           generalize (W6.alloc (.cells #[.int .i64 e.side, .int .i64 e.play, .int .i64 e.slot, .string e.name, .int .i64 e.pos] 142)) = W7 at F7 ⊢
           generalize W6.heap.size = ex at F7 ⊢
           clear y0 y1 y2 y3 y4
           have x0 : W7.cell? ⟨bx, 0, none⟩ = some (.int .i64 d.side) := by rw [F7.out.2.2.2.1.cell]; rfl
           have x1 : W7.cell? ⟨bx, 1, none⟩ = some (.int .i64 d.play) := by rw [F7.out.2.2.2.1.cell]; rfl
           have y0 : W7.cell? ⟨ex, 0, none⟩ = some (.int .i64 e.side) := by rw [F7.out.2.2.2.2.cell]; rfl
           have y1 : W7.cell? ⟨ex, 1, none⟩ = some (.int .i64 e.play) := by rw [F7.out.2.2.2.2.cell]; rfl
           go_cut [18] (fun s18 wx => s18 = .bool (ends d (l.drop (k + 1))) ∧ wx = W7)
           case first =>
            by_cases hlast : k + 1 = n
            ·
             have e1 : ((k : Int) + 1 == (n : Int)) = true := by simp; omega
             have e2 : ends d (l.drop (k + 1)) = true := by rw [List.drop_of_length_le (by rw [Hn.out]; omega)]; rfl
             clear hlast
             go_wp2
             go_meet
             case rel => exact ⟨by rw [e2], rfl⟩
            ·
             have e1 : ((k : Int) + 1 == (n : Int)) = false := by simp; omega
             have e2 := Hends.out (by omega)
             have E2 := Lib.hid e2; clear hlast e2
             by_cases hp : (e.play != d.play) = true
             ·
              go_wp2
              go_meet
              case rel => exact ⟨by rw [E2.out, hp]; rfl, rfl⟩
             ·
              have hp' : (e.play != d.play) = false := by simpa using hp
              clear hp
              go_wp2
              go_meet
              case rel => exact ⟨by rw [E2.out, hp']; rfl, rfl⟩
           case rest =>
            obtain ⟨h18, hwc⟩ := hcut
            subst h18; subst hwc
            have hst := Hstep.out (ends d (l.drop (k + 1))) rfl
            generalize ends d (l.drop (k + 1)) = E at hst ⊢
            have Hst := Lib.hid hst; clear hst y0 y1 x1
            have hcn : complete Y.p = true ↔ Y.p.Nodup := complete_nodup Y.p HY.out.2 Hnine.out
            have Hcn := Lib.hid hcn; clear hcn
            go_upto_region 30 with fail
            go_cut [141] (fun s141 wx => s141 = .bool (E && !complete Y.p) ∧ Below wc.heap.size wc wx)
            case first =>
             cases E with
             | false =>
              go_wp2
              go_meet
              case rel => exact ⟨rfl, Below.refl _ _⟩
             | true =>
              have Hrg : Hid (∀ j, j < Y.cells.length → wc.cell? ⟨w.heap.size, d.side.toNat * 18 + j, none⟩ = Y.cells[j]?) := by
               have h := Tms.rangeG F7.out.2.1 HT2.out Hsd.out
               rw [HYe.out] at h
               exact h
              go_wp2_with (first
               | (refine wpList_load_cells_g 33 _ rfl w.heap.size (d.side.toNat * 18) rfl Y.cells Hrg.out _ Tryz.underlying33 rfl Hiy.out (by kernel_rfl) ?_)
               | (go_at_call 120; refine (complete_any Y HY.out _ rfl _).mono ?_; rintro e w8 ⟨rfl, hb8⟩))
              go_meet
              case rel => exact ⟨rfl, hb8⟩
            case rest =>
             obtain ⟨h141, hb8⟩ := hcut
             subst h141
             have F8 : Hid (Below w.heap.size w wc ∧ Bk wc w.heap.size 54 (T1.made d).cells.toArray ∧ Seen wc m (known ++ [d.name])) :=
              ⟨bt_trans F7.out.1 hb8, F7.out.2.1.below hb8 F7.out.2.1.lt, F7.out.2.2.1.below hb8 F7.out.2.2.1.lt⟩
             clear hb8 F7 x0
             have hF : (E && !complete Y.p) = true ↔ (E = true ∧ ¬ Y.p.Nodup) := by
              rw [Bool.and_eq_true, ← Hcn.out]; simp
             generalize (E && !complete Y.p) = F9 at hF ⊢
             have HF := Lib.hid hF; clear hF
             cases F9 with
             | true =>
              go_wp2
              go_ret
              refine ⟨ret_int ?_, F8.out.1⟩
              rw [Hst.out, if_pos (HF.out.1 (by trivial))]
             | false =>
              go_wp2
              refine ⟨?_, ?_⟩
              ·
               refine ⟨_, _, _, _, _, _, _, _, _, _, _, _, _, _, _, _, _, _, _, _, _, _, _, _, _, _, _, _, _, _, _, _, _, _, _, _, _, _, _, _, _, _, _, _, _, _, _, _, _, _, _, _, _, _, _, _, _, _, _, _, _, _, _, _, _, _, _, _, _, _, _, _, _, _, _, _, _, _, _, _, _, _, _, _, _, _, _, _, _, _, _, _, _, _, _, _, _, _, _, _, _, _, _, _, _, _, ?_, rfl⟩
               refine ⟨k + 1, T1.made d, known ++ [d.name], by omega, by go_num, HT2.out, F8.out.1, F8.out.2.1, F8.out.2.2, by have := Hkl.out; simp; omega, made_inR T1 Hin.out d (checkC_zero Hcc0.out).2.2.2.1, ?_⟩
               rw [← HH.out, Hst.out, if_neg (fun h => by have := HF.out.2 h; cases this)]
               simp only [pv]
               rw [if_neg (by omega), Nat.add_sub_cancel, Hd.out]
              ·
               simp [intOf]; omega
       ·
        have hz2 : (firstE [checkC d, whenE (late d (pv l k)) 11] != 0) = true := by simpa using hE2
        have HE2 := Lib.hid hE2; clear hE2
        subst hs13
        go_wp2
        go_ret
        refine ⟨ret_int ?_, F1.out.1⟩
        rw [Hres.out, ccLoop]
        have hE2 := HE2.out
        by_cases h0 : checkC d = 0
        ·
         cases hl : late d (pv l k)
         ·
          exfalso; apply hE2; simp [firstE, whenE, h0, hl]
         ·
          simp [firstE, whenE, h0]
        ·
         rw [if_pos h0]; simp [firstE, h0]
     ·
      obtain rfl : k = n := by omega
      obtain ⟨wo, hwo⟩ : ∃ wo : World, wo = wr := ⟨_, rfl⟩
      rw [← hwo] at Hb Hbk Hsn ⊢
      clear hwo
      go_wp2
      go_ret
      refine ⟨ret_int ?_, Hb.out⟩
      rw [HH.out, Hcc.out, List.drop_of_length_le (by rw [Hn.out]; exact Nat.le_refl _), ccLoop]
 ·
  have hz : (firstE [checkTeams t, whenE (decide (64 < (n : Int))) 5] != 0) = true := by simpa using hE
  have HE := Lib.hid hE; clear hE
  go_enter Tryz.func61, Tryz.ntmps61
  go_wp2_with (first
   | (refine wpList_load_cells rfl 54 _ rfl w.heap.size 0 rfl t.cells (Hcs.out _ Hbk.out) _ Tryz.underlying54 rfl Hi.out ?_)
   | (go_at_call 56; refine (checkTeams_any t Ht.out _ rfl _).mono ?_; rintro e w1 ⟨rfl, hb1⟩)
   | (go_at_call 68; refine (when_any _ _ _).mono ?_; rintro e w' ⟨rfl, rfl⟩)
   | (go_at_call 89; refine (first2 _ _ _ _ _ _ (by exact heap_alloc_new _ _)).mono ?_; rintro e w' ⟨rfl, rfl⟩))
  go_ret
  exact ⟨ret_int (by unfold checkChanges; rw [He.out, if_pos HE.out]), bt_alloc (bt_trans (bt_new w _) hb1) _⟩
end Go.Proofs.YtmagppkclnebjaaGreatDoor
