/- lineup.Gone: the players of a side who have left at a play. -/
import Derived.Test.YtmagppkclnebjaaGreatDoorA12
import Derived.OwnWalk
import Derived.Maps.AppendAt
set_option linter.unusedVariables false
set_option linter.unusedSimpArgs false
set_option linter.unusedSimpArgs false
namespace Go.Proofs.YtmagppkclnebjaaGreatDoor
open Go.RowKit
open L

def L.goneR (t : Tms) (l : List Chg) (p side : Int) : List Str × Int :=
 if firstE [checkChanges t l, withinE p 0 256, sidedE side] ≠ 0 then ([], firstE [checkChanges t l, withinE p 0 256, sidedE side]) else (goneL t l p side, 0)
theorem infoS : (Tryz.prog.info? 9).map (fun i => (i.zero, i.size, i.bytes)) = some (some (.string { data := #[] }), 1, 16) := by kernel_rfl
theorem goneL_stop (t : Tms) (d : Chg) (r : List Chg) (p side : Int) (h : p < d.play) : goneL t (d :: r) p side = [] := by unfold goneL; rw [if_pos h]
theorem goneL_go (t : Tms) (d : Chg) (r : List Chg) (p side : Int) (h : ¬ p < d.play) : goneL t (d :: r) p side = (if (t.get d.side).bat d.slot ≠ d.name ∧ d.side = side then [(t.get d.side).bat d.slot] else []) ++ goneL (t.made d) r p side := by rw [goneL]; rw [if_neg h]
theorem strs_oneCell (zs : List Str) : ∀ u ∈ zs.map Value.string, u.oneCell' = true := by
 intro u hu
 simp at hu
 obtain ⟨_, _, rfl⟩ := hu
 rfl
theorem row_isA {W : World} {base : Nat} {e : TypeId} {size n : Nat} {v : Value} {xs : List Value} (h : W.ownsRow base e size v n xs) {b : Nat} (hb : v.ownBlock = some b) : ∃ cs, W.heap[b]? = some (.cells cs e (0, 0)) := by
 rcases h.2 with ⟨rfl, _⟩ | ⟨g, cap, cur, rfl, _, hg, _⟩
 ·
  cases hb
 ·
  have : g = b := by simpa [Value.ownBlock] using hb
  subst this
  exact ⟨_, hg⟩

set_option maxHeartbeats 4000000 in
set_option maxRecDepth 100000 in
theorem gone_any (t : Tms) (ht : t.ok) (T : Array Value) (hT : T = t.cells.toArray) (l : List Chg) (A : Option Addr) (n c : Nat) (hn : l.length = n) (p side : Int) (w : World) (hl : RdC w A l) :
 Calls Tryz.prog 50 #[.agg T, .slice A n c, .int .i64 p, .int .i64 side] w fun x w' => (∃ v, x = .returned (.tuple #[v, .int .i64 (goneR t l p side).2]) ∧ SlK 1 w' v (goneR t l p side).1.length ((goneR t l p side).1.map .string)) ∧ Below w.heap.size w w' := by
 obtain ⟨i0, hi, hz0, hz1, hz2⟩ := info_parts infoS
 have F : Hid (Below w.heap.size w (w.alloc (.cells T 54)) ∧ Bk (w.alloc (.cells T 54)) w.heap.size 54 t.cells.toArray) := by
  refine ⟨bt_new w _, by rw [← hT]; exact Bk.new w 54 T⟩
 have Ht := Lib.hid ht; have Hn := Lib.hid hn; have Hl := Lib.hid hl
 have Hi := Lib.hid (info54s t.cells.toArray.size (Tms.size36 t ht))
 clear ht hn hl hT
 have hcc : ∀ W, Below w.heap.size w W → Calls Tryz.prog 61 #[.agg t.cells.toArray, .slice A n c] W fun x w' => x = .returned (.int .i64 (checkChanges t l)) ∧ Below W.heap.size W w' := fun W hW =>
  checkChanges_pre t Ht.out _ rfl l A n c Hn.out W (Hl.out.below hW)
 have Hcc := Lib.hid hcc; clear hcc
 by_cases hE : firstE [checkChanges t l, withinE p 0 256, sidedE side] = 0
 ·
  have hz : (firstE [checkChanges t l, withinE p 0 256, sidedE side] != 0) = false := by simpa using hE
  obtain ⟨h0, hx1, hx2⟩ := firstE3 hE
  clear hx1 hx2
  have HE := Lib.hid hE; clear hE
  have Hok := Lib.hid (okS_all h0)
  have h64 := (cc_parts h0).2.1
  have hn1 : n ≤ 64 := by have := Hn.out; omega
  clear h0 h64
  go_enter Tryz.func50, Tryz.ntmps50
  go_upto_region 1 with fail
  generalize (w.alloc (.cells T 54)) = W0 at F ⊢
  go_upto_region 4 with (first
   | (refine wpList_load_row rfl 54 _ rfl w.heap.size rfl 54 t.cells.toArray (0, 0) _ F.out.2 Tryz.underlying54 rfl Hi.out ?_)
   | (go_at_call 61; refine (Hcc.out _ F.out.1).mono ?_; rintro e w1 ⟨rfl, hb1⟩)
   | (go_at_call 90; refine (indexed_any _ _).mono ?_; rintro e w' ⟨rfl, rfl⟩)
   | (go_at_call 94; refine (sided_any _ _).mono ?_; rintro e w' ⟨rfl, rfl⟩)
   | (go_at_call 89; refine (first3 _ _ _ _ _ _ _ (by exact heap_alloc_new _ _)).mono ?_; rintro e w' ⟨rfl, rfl⟩))
  have F1 : Hid (Below w.heap.size w (w1.alloc (.cells #[.int .i64 (checkChanges t l), .int .i64 (withinE p 0 256), .int .i64 (sidedE side)] 30)) ∧ Bk (w1.alloc (.cells #[.int .i64 (checkChanges t l), .int .i64 (withinE p 0 256), .int .i64 (sidedE side)] 30)) w.heap.size 54 t.cells.toArray) :=
   ⟨bt_alloc (bt_trans F.out.1 hb1) _, (F.out.2.below hb1 F.out.2.lt).alloc _⟩
  clear F hb1
  generalize (w1.alloc (.cells #[.int .i64 (checkChanges t l), .int .i64 (withinE p 0 256), .int .i64 (sidedE side)] 30)) = W2 at F1 ⊢
  have hr : goneR t l p side = (goneL t l p side, 0) := by unfold goneR; rw [if_neg (by rw [HE.out]; simp)]
  have Hr := Lib.hid hr; clear hr
  go_wp2
  go_loopw [11, 30] (fun a i wr => ∃ (k : Nat) (T1 : Tms) (out : List Str), k ≤ n ∧ i = .int .i64 k ∧ T1.ok ∧ Below w.heap.size w wr ∧ Bk wr w.heap.size 54 T1.cells.toArray ∧ wr.ownsRow (w.heap.size + 1) 9 1 a out.length (out.map .string) ∧ out.length ≤ k ∧ goneL t l p side = out ++ goneL T1 (l.drop k) p side) (fun _ i _ => n - (intOf i).toNat)
  case atStart => exact ⟨0, t, [], by omega, rfl, Ht.out, F1.out.1, F1.out.2, World.ownsRow_nil _ _ _ _, by simp, by simp⟩
  case round =>
   obtain ⟨k, T1, out, hk, rfl, ht1, hb, hbk, how, hol, hgo⟩ := hrel
   clear F1
   have Ht1 := Lib.hid ht1; have Hb := Lib.hid hb; have Hbk := Lib.hid hbk; have How := Lib.hid how; have Hol := Lib.hid hol; have Hgo := Lib.hid hgo
   clear ht1 hb hbk how hol hgo
   by_cases hkn : k < n
   ·
    obtain ⟨b, off, rfl, hc⟩ := Hl.out k (by rw [Hn.out]; exact hkn)
    have hb0 : b < w.heap.size := World.block_lt_of_cell? w ⟨b, off + k * 5 + 0, none⟩ (u := .int .i64 (l.getD k ⟨0, 0, 0, .empty, 0⟩).side) (by rw [hc 0 (by omega)]; rfl)
    have hcell : ∀ j, j < 5 → wr.cell? ⟨b, off + k * 5 + j, none⟩ = (l.getD k ⟨0, 0, 0, .empty, 0⟩).val[j]? := fun j hj => by
     rw [Hb.out.cell (p := ⟨b, off + k * 5 + j, none⟩) hb0]; exact hc j hj
    have hdr : l.drop k = l.getD k ⟨0, 0, 0, .empty, 0⟩ :: l.drop (k + 1) := by
     have hkl : k < l.length := by rw [Hn.out]; exact hkn
     rw [List.drop_eq_getElem_cons hkl]
     simp [List.getD, List.getElem?_eq_getElem hkl]
    have hdo : (l.getD k ⟨0, 0, 0, .empty, 0⟩).okS := Hok.out _ (by
     have hkl : k < l.length := by rw [Hn.out]; exact hkn
     simp [List.getD, List.getElem?_eq_getElem hkl])
    generalize hd : l.getD k ⟨0, 0, 0, .empty, 0⟩ = d at hcell hdr hdo
    have Hdr := Lib.hid hdr; have Hdo := Lib.hid hdo; clear hd hdr hc hdo
    have c0 : wr.cell? ⟨b, off + k * 5, none⟩ = some (.int .i64 d.side) := hcell 0 (by omega)
    have c1 : wr.cell? ⟨b, off + k * 5 + 1, none⟩ = some (.int .i64 d.play) := hcell 1 (by omega)
    have c2 : wr.cell? ⟨b, off + k * 5 + 2, none⟩ = some (.int .i64 d.slot) := hcell 2 (by omega)
    have c3 : wr.cell? ⟨b, off + k * 5 + 3, none⟩ = some (.string d.name) := hcell 3 (by omega)
    have c4 : wr.cell? ⟨b, off + k * 5 + 4, none⟩ = some (.int .i64 d.pos) := hcell 4 (by omega)
    clear hcell
    have hsz := Hbk.out.lt
    have F0 : Hid (Below w.heap.size w (wr.alloc (.cells #[.int .i64 d.side, .int .i64 d.play, .int .i64 d.slot, .string d.name, .int .i64 d.pos] 142)) ∧ Bk (wr.alloc (.cells #[.int .i64 d.side, .int .i64 d.play, .int .i64 d.slot, .string d.name, .int .i64 d.pos] 142)) w.heap.size 54 T1.cells.toArray ∧ (wr.alloc (.cells #[.int .i64 d.side, .int .i64 d.play, .int .i64 d.slot, .string d.name, .int .i64 d.pos] 142)).ownsRow (w.heap.size + 1) 9 1 u11 out.length (out.map .string) ∧ Bk (wr.alloc (.cells #[.int .i64 d.side, .int .i64 d.play, .int .i64 d.slot, .string d.name, .int .i64 d.pos] 142)) wr.heap.size 142 d.val) :=
     ⟨bt_alloc Hb.out _, Hbk.out.alloc _, How.out.alloc _, Bk.new wr 142 #[.int .i64 d.side, .int .i64 d.play, .int .i64 d.slot, .string d.name, .int .i64 d.pos]⟩
    have hne : u11.ownBlock ≠ some wr.heap.size := fun e => by have := (How.out.lt _ e).2; omega
    go_upto_region 8 with fail
    generalize (wr.alloc (.cells #[.int .i64 d.side, .int .i64 d.play, .int .i64 d.slot, .string d.name, .int .i64 d.pos] 142)) = W0 at F0 ⊢
    generalize wr.heap.size = bx at F0 hsz hne ⊢
    clear c0 c1 c2 c3 c4 Hb Hbk How
    have x0 : W0.cell? ⟨bx, 0, none⟩ = some (.int .i64 d.side) := by rw [F0.out.2.2.2.cell]; rfl
    have x1 : W0.cell? ⟨bx, 1, none⟩ = some (.int .i64 d.play) := by rw [F0.out.2.2.2.cell]; rfl
    have x2 : W0.cell? ⟨bx, 2, none⟩ = some (.int .i64 d.slot) := by rw [F0.out.2.2.2.cell]; rfl
    have x3 : W0.cell? ⟨bx, 3, none⟩ = some (.string d.name) := by rw [F0.out.2.2.2.cell]; rfl
    have x4 : W0.cell? ⟨bx, 4, none⟩ = some (.int .i64 d.pos) := by rw [F0.out.2.2.2.cell]; rfl
    by_cases hp : p < d.play
    ·
     have hgf : goneL t l p side = out := by rw [Hgo.out, Hdr.out, goneL_stop _ _ _ _ _ hp, List.append_nil]
     have Hgf := Lib.hid hgf; clear hgf
     go_wp2
     go_ret2
     rw [Hr.out, Hgf.out]
     exact ⟨⟨_, rfl, SlK.of_own F0.out.2.2.1⟩, F0.out.1⟩
    ·
     have Hp := Lib.hid hp
     go_upto_region 10 with (first
      | (go_at_call 73; refine (player_any T1 Ht1.out _ _ _ Hdo.out.1 Hdo.out.2.1 Hdo.out.2.2 _ (by exact F0.out.2.1)).mono ?_; rintro e w3 ⟨rfl, nn, rfl⟩))
     have F2 : Hid (Below w.heap.size w (W0.drewN nn) ∧ Bk (W0.drewN nn) w.heap.size 54 T1.cells.toArray ∧ (W0.drewN nn).ownsRow (w.heap.size + 1) 9 1 u11 out.length (out.map .string) ∧ Bk (W0.drewN nn) bx 142 d.val) :=
      ⟨bt_drewN F0.out.1 _, F0.out.2.1.drewN _, F0.out.2.2.1, F0.out.2.2.2.drewN _⟩
     clear F0 x0 x1 x2 x3 x4
     generalize W0.drewN nn = W3 at F2 ⊢
     have x0 : W3.cell? ⟨bx, 0, none⟩ = some (.int .i64 d.side) := by rw [F2.out.2.2.2.cell]; rfl
     have x1 : W3.cell? ⟨bx, 1, none⟩ = some (.int .i64 d.play) := by rw [F2.out.2.2.2.cell]; rfl
     have x2 : W3.cell? ⟨bx, 2, none⟩ = some (.int .i64 d.slot) := by rw [F2.out.2.2.2.cell]; rfl
     have x3 : W3.cell? ⟨bx, 3, none⟩ = some (.string d.name) := by rw [F2.out.2.2.2.cell]; rfl
     have x4 : W3.cell? ⟨bx, 4, none⟩ = some (.int .i64 d.pos) := by rw [F2.out.2.2.2.cell]; rfl
     have hstep := goneL_go T1 d (l.drop (k + 1)) p side (by have := Hp.out; omega)
     have Hstep := Lib.hid hstep; clear hstep
     generalize hB : (T1.get d.side).bat d.slot = B at Hstep
     have HB := Lib.hid hB; clear hB
     by_cases hA : B = d.name
     ·
      have ha := tl_eq hA
      have HA := Lib.hid hA; clear hA
      go_wp2_with (first
       | (go_at_call 81; refine (make_any T1 Ht1.out w.heap.size d Hdo.out.1 Hdo.out.2.1 Hdo.out.2.2 _ (by exact F2.out.2.1)).mono ?_; rintro e W4 ⟨rfl, hmk, hmg⟩))
      go_roundw
      case rel =>
       refine ⟨k + 1, T1.made d, out, by omega, by go_num, Tms.made_ok' T1 Ht1.out d, F2.out.1.grown hmg F2.out.1.size (fun q hq => by have := Option.some.inj hq; omega), hmk, F2.out.2.2.1.kept hmg (.inr (fun e => by have := (F2.out.2.2.1.lt _ e).1; omega)), by have := Hol.out; omega, ?_⟩
       rw [Hgo.out, Hdr.out, Hstep.out, if_neg (fun h => h.1 HA.out)]; simp
      case measure => simp [intOf]; omega
     ·
      have ha := tl_ne hA
      have HA := Lib.hid hA; clear hA
      by_cases hS : d.side = side
      ·
       have hs : (d.side == side) = true := by simpa using hS
       have HS := Lib.hid hS; clear hS
       have hcs := cell_one_new W3 (.string B) 9
       have hols : out.length + 1 ≤ 65 := by have := Hol.out; omega
       go_upto_region 12 with (first
        | (at_builtin; refine wpList_append_own _ rfl _ _ 26 rfl (w.heap.size + 1) 9 i0 (.string { data := #[] }) 1 16 Tryz.underlying26 hi hz0 hz1 hz2 rfl (by decide) _ _ _ rfl (F2.out.2.2.1.alloc _) ⟨W3.heap.size, 0, none⟩ 1 1 [.string B] rfl rfl hcs (strs_oneCell [B]) (by unfold maxLen; omega) (by omega) (by have := F2.out.1.size; have := F2.out.2.1.lt; simp; omega) ?_; intro v' w5 hown' hgrow hnil))
       have hn1w : ∀ r, u11.ownBlock = some r → w.heap.size + 1 ≤ r := fun r e => (F2.out.2.2.1.lt r e).1
       have F5 : Hid (Below w.heap.size w w5 ∧ Bk w5 w.heap.size 54 T1.cells.toArray ∧ w5.ownsRow (w.heap.size + 1) 9 1 v' (out ++ [B]).length ((out ++ [B]).map .string) ∧ Bk w5 bx 142 d.val) := by
        refine ⟨(bt_alloc F2.out.1 _).grown hgrow (by have := F2.out.1.size; simp; omega) (fun r e => by have := hn1w r e; omega), (hgrow.block _ (by have := F2.out.2.1.lt; simp; omega) (fun e => by have := hn1w _ e.symm; omega)).trans (F2.out.2.1.alloc _), by simpa using hown', ?_⟩
        refine (hgrow.block _ (by have := F2.out.2.2.2.lt; simp; omega) (fun e => ?_)).trans (F2.out.2.2.2.alloc _)
        obtain ⟨cs, hcs'⟩ := row_isA F2.out.2.2.1 e.symm
        have h1 := F2.out.2.2.2
        unfold Bk at h1
        rw [h1] at hcs'
        cases hcs'
       clear F2 hgrow hown' x0 x1 x2 x3 x4 hcs
       have x0 : w5.cell? ⟨bx, 0, none⟩ = some (.int .i64 d.side) := by rw [F5.out.2.2.2.cell]; rfl
       have x1 : w5.cell? ⟨bx, 1, none⟩ = some (.int .i64 d.play) := by rw [F5.out.2.2.2.cell]; rfl
       have x2 : w5.cell? ⟨bx, 2, none⟩ = some (.int .i64 d.slot) := by rw [F5.out.2.2.2.cell]; rfl
       have x3 : w5.cell? ⟨bx, 3, none⟩ = some (.string d.name) := by rw [F5.out.2.2.2.cell]; rfl
       have x4 : w5.cell? ⟨bx, 4, none⟩ = some (.int .i64 d.pos) := by rw [F5.out.2.2.2.cell]; rfl
       go_wp2_with (first
        | (go_at_call 81; refine (make_any T1 Ht1.out w.heap.size d Hdo.out.1 Hdo.out.2.1 Hdo.out.2.2 _ (by exact F5.out.2.1)).mono ?_; rintro e W4 ⟨rfl, hmk, hmg⟩))
       go_roundw
       case rel =>
        refine ⟨k + 1, T1.made d, out ++ [B], by omega, by go_num, Tms.made_ok' T1 Ht1.out d, F5.out.1.grown hmg F5.out.1.size (fun q hq => by have := Option.some.inj hq; omega), hmk, F5.out.2.2.1.kept hmg (.inr (fun e => by have := (F5.out.2.2.1.lt _ e).1; omega)), by have := Hol.out; simp; omega, ?_⟩
        rw [Hgo.out, Hdr.out, Hstep.out, if_pos ⟨HA.out, HS.out⟩]; simp
       case measure => simp [intOf]; omega
      ·
       have hs : (d.side == side) = false := by simpa using hS
       have HS := Lib.hid hS; clear hS
       go_wp2_with (first
        | (go_at_call 81; refine (make_any T1 Ht1.out w.heap.size d Hdo.out.1 Hdo.out.2.1 Hdo.out.2.2 _ (by exact F2.out.2.1)).mono ?_; rintro e W4 ⟨rfl, hmk, hmg⟩))
       go_roundw
       case rel =>
        refine ⟨k + 1, T1.made d, out, by omega, by go_num, Tms.made_ok' T1 Ht1.out d, F2.out.1.grown hmg F2.out.1.size (fun q hq => by have := Option.some.inj hq; omega), hmk, F2.out.2.2.1.kept hmg (.inr (fun e => by have := (F2.out.2.2.1.lt _ e).1; omega)), by have := Hol.out; omega, ?_⟩
        rw [Hgo.out, Hdr.out, Hstep.out, if_neg (fun h => HS.out h.2)]; simp
       case measure => simp [intOf]; omega
   ·
    obtain rfl : k = n := by omega
    have hgf : goneL t l p side = out := by rw [Hgo.out, List.drop_of_length_le (by rw [Hn.out]; exact Nat.le_refl _), goneL, List.append_nil]
    have Hgf := Lib.hid hgf; clear hgf
    go_wp2
    go_ret2
    rw [Hr.out, Hgf.out]
    exact ⟨⟨_, rfl, SlK.of_own How.out⟩, Hb.out⟩
 ·
  have hz : (firstE [checkChanges t l, withinE p 0 256, sidedE side] != 0) = true := by simpa using hE
  have HE := Lib.hid hE; clear hE
  go_enter Tryz.func50, Tryz.ntmps50
  go_upto_region 1 with fail
  generalize (w.alloc (.cells T 54)) = W0 at F ⊢
  go_wp2_with (first
   | (refine wpList_load_row rfl 54 _ rfl w.heap.size rfl 54 t.cells.toArray (0, 0) _ F.out.2 Tryz.underlying54 rfl Hi.out ?_)
   | (go_at_call 61; refine (Hcc.out _ F.out.1).mono ?_; rintro e w1 ⟨rfl, hb1⟩)
   | (go_at_call 90; refine (indexed_any _ _).mono ?_; rintro e w' ⟨rfl, rfl⟩)
   | (go_at_call 94; refine (sided_any _ _).mono ?_; rintro e w' ⟨rfl, rfl⟩)
   | (go_at_call 89; refine (first3 _ _ _ _ _ _ _ (by exact heap_alloc_new _ _)).mono ?_; rintro e w' ⟨rfl, rfl⟩))
  go_ret2
  have hr : goneR t l p side = ([], firstE [checkChanges t l, withinE p 0 256, sidedE side]) := by unfold goneR; rw [if_pos HE.out]
  rw [hr]
  exact ⟨⟨_, rfl, SlK.nil 1 _⟩, bt_alloc (bt_trans F.out.1 hb1) _⟩
end Go.Proofs.YtmagppkclnebjaaGreatDoor
