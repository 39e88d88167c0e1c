/- The reference: Pitchers. -/
import Derived.Test.YtmagppkclnebjaaGreatDoorV1
set_option linter.unusedVariables false
set_option linter.unusedSimpArgs false
set_option linter.unusedSimpArgs false
set_option linter.unusedVariables false
namespace Go.Proofs.YtmagppkclnebjaaGreatDoor
open Go.RowKit
open L

namespace L
def isPit (side : Int) (p : Nat) (s : Sti) : Bool := s.side == side && s.pos == 1 && s.fr == (p : Int)
theorem pitRef_succ (A : List Sti) (side : Int) (p : Nat) : pitRef A side (p + 1) = pitRef A side p ++ A.filter (isPit side p) := by
 unfold pitRef; rw [List.range_succ, List.flatMap_append]; simp; rfl
theorem filter_take_succ (A : List Sti) (f : Sti → Bool) (q : Nat) (hq : q < A.length) : (A.take (q + 1)).filter f = (A.take q).filter f ++ if f (A.getD q noSti) = true then [A.getD q noSti] else [] := by
 rw [List.take_succ_eq_append_getElem hq, List.filter_append]
 simp only [List.getD, List.getElem?_eq_getElem hq, Option.getD_some]
 congr 1
 cases h : f A[q] <;> simp [h]
theorem filter_le (A : List Sti) (f : Sti → Bool) (q : Nat) : ((A.take q).filter f).length ≤ q := by
 refine Nat.le_trans (List.length_filter_le _ _) ?_
 rw [List.length_take]; exact Nat.min_le_left _ _
end L

set_option maxHeartbeats 8000000 in
set_option maxRecDepth 100000 in
theorem refPitchers_any (t : Tms) (ht : t.ok) (T : Array Value) (hT : T = t.cells.toArray) (l : List Chg) (A : Option Addr) (n c : Nat) (hn : l.length = n) (hle : n ≤ 1000) (hok : ∀ d ∈ l, d.okS) (N : Nat) (hN : N ≤ 1000) (side : Int) (w : World) (hl : RdC w A l) (S : List Sti) (hS : sidesR t l N 2 = S) (hSl : S.length ≤ 18000) :
 Calls Tryz.prog 47 #[.agg T, .slice A n c, .int .i64 N, .int .i64 side] w fun x w' => (∃ v, x = .returned v ∧ SlK 6 w' v (pitRef S side N).length (flatS (pitRef S side N))) ∧ Below w.heap.size w w' := by
 obtain ⟨i0, hi, hz0, hz1, hz2⟩ := info_parts info124
 have F : Hid (Below w.heap.size w (w.alloc (.cells T 46)) ∧ Bk (w.alloc (.cells T 46)) w.heap.size 46 t.cells.toArray) := ⟨bt_new w _, by rw [← hT]; exact Bk.new w 46 T⟩
 have H46 : Hid (∀ W, Below w.heap.size w W → Calls Tryz.prog 46 #[.agg t.cells.toArray, .slice A n c, .int .i64 N] W fun x w' => (∃ v, x = .returned v ∧ SlK 6 w' v S.length (flatS S)) ∧ Below W.heap.size W w') := fun W hb => by
  rw [← hS]; exact refStints_any t ht _ rfl l A n c hn hle hok N hN W (hl.below hb)
 have Hi := Lib.hid (info46s t.cells.toArray.size (Tms.size36 t ht))
 clear hT ht hn hl hok hS
 generalize t.cells = tc at F H46 Hi
 go_enter Tryz.func47, Tryz.ntmps47
 go_upto_region 1 with fail
 generalize (w.alloc (.cells T 46)) = W0 at F ⊢
 go_upto_region 4 with (first
  | (refine wpList_load_row rfl 46 _ rfl w.heap.size rfl 46 tc.toArray (0, 0) _ F.out.2 Tryz.underlying46 rfl Hi.out ?_)
  | (go_at_call 46; refine (H46.out _ F.out.1).mono ?_; rintro e w2 ⟨⟨v, rfl, hv⟩, hb2⟩; obtain ⟨hx7, A7, c7, rfl, hr7⟩ := hv))
 have hrs : RdS w2 A7 S := RdS.of_slk ⟨hx7, A7, c7, rfl, hr7⟩
 have hwl : w.heap.size < w2.heap.size := Nat.lt_of_lt_of_le F.out.2.lt hb2.size
 have F1 : Hid (Below w.heap.size w w2 ∧ RdS w2 A7 S) := ⟨bt_trans F.out.1 hb2, hrs⟩
 clear F hb2 hrs hx7 hr7 H46 Hi
 obtain ⟨m, hm⟩ : ∃ m, m = S.length := ⟨_, rfl⟩
 rw [← hm] at hSl ⊢
 have Hm := Lib.hid hm; clear hm
 go_loopw [9, 11] (fun v i wr => ∃ p : Nat, p ≤ N ∧ i = .int .i64 p ∧ Below w.heap.size w wr ∧ Below w2.heap.size w2 wr ∧ wr.ownsRow w2.heap.size 124 6 v (pitRef S side p).length (flatS (pitRef S side p)) ∧ (pitRef S side p).length ≤ p * 18000) (fun _ i _ => N - (intOf i).toNat)
 case atStart => exact ⟨0, by omega, rfl, F1.out.1, Below.refl _ _, World.ownsRow_nil _ _ _ _, Nat.zero_le _⟩
 case round =>
  obtain ⟨p, hp, rfl, hb, hb2, hown, hlen⟩ := hrel
  have F2 := Lib.hid (And.intro hb (And.intro hb2 hown))
  clear hb hb2 hown
  by_cases hpN : p < N
  ·
   have q1 : (p : Int) < (N : Int) := by omega
   have Hsucc := Lib.hid (pitRef_succ S side p)
   obtain ⟨R0, hR0⟩ : ∃ R0, R0 = pitRef S side p := ⟨_, rfl⟩
   rw [← hR0] at F2 hlen Hsucc
   clear hR0
   go_upto_region 7 with fail
   go_loopw [9, 12] (fun v i wr => ∃ q : Nat, q ≤ m ∧ i = .int .i64 q ∧ Below w.heap.size w wr ∧ Below w2.heap.size w2 wr ∧ wr.ownsRow w2.heap.size 124 6 v (R0 ++ (S.take q).filter (isPit side p)).length (flatS (R0 ++ (S.take q).filter (isPit side p)))) (fun _ i _ => m - (intOf i).toNat)
   case atStart => exact ⟨0, Nat.zero_le _, rfl, F2.out.1, F2.out.2.1, by simpa using F2.out.2.2⟩
   case round =>
    clear F2
    obtain ⟨q, hq, rfl, hb, hb2, hown⟩ := hrel
    have hlk := filter_le S (isPit side p) q
    by_cases hqm : q < m
    ·
     have r1 : (q : Int) < (m : Int) := by omega
     have r0 : (0 : Int) ≤ (q : Int) := by omega
     have hqs : q < S.length := by rw [← Hm.out]; exact hqm
     obtain ⟨b, off, rfl, hc⟩ := F1.out.2 q hqs
     have hb0 : b < w2.heap.size := World.block_lt_of_cell? w2 ⟨b, off + q * 6 + 0, none⟩ (u := .int .i64 (S.getD q noSti).side) (by rw [hc 0 (by omega)]; rfl)
     have hcell : ∀ j, j < 6 → wr.cell? ⟨b, off + q * 6 + j, none⟩ = (S.getD q noSti).val[j]? := fun j hj => by
      rw [hb2.cell (p := ⟨b, off + q * 6 + j, none⟩) hb0]; exact hc j hj
     have htk := filter_take_succ S (isPit side p) q hqs
     generalize S.getD q noSti = d at hcell htk
     have Htk := Lib.hid htk; clear htk hc
     have c0 : wr.cell? ⟨b, off + q * 6, none⟩ = some (.int .i64 d.side) := hcell 0 (by omega)
     have c1 : wr.cell? ⟨b, off + q * 6 + 1, none⟩ = some (.int .i64 d.slot) := hcell 1 (by omega)
     have c2 : wr.cell? ⟨b, off + q * 6 + 2, none⟩ = some (.int .i64 d.pos) := hcell 2 (by omega)
     have c3 : wr.cell? ⟨b, off + q * 6 + 3, none⟩ = some (.string d.name) := hcell 3 (by omega)
     have c4 : wr.cell? ⟨b, off + q * 6 + 4, none⟩ = some (.int .i64 d.fr) := hcell 4 (by omega)
     have c5 : wr.cell? ⟨b, off + q * 6 + 5, none⟩ = some (.int .i64 d.to) := hcell 5 (by omega)
     clear hcell hqs
     obtain ⟨V, hV⟩ : ∃ V, V = R0 ++ (S.take q).filter (isPit side p) := ⟨_, rfl⟩
     have hVl : V.length ≤ 20000000 := by rw [hV, List.length_append]; omega
     have hV1 : R0 ++ (S.take (q + 1)).filter (isPit side p) = V ++ if isPit side p d = true then [d] else [] := by rw [Htk.out, hV, List.append_assoc]
     rw [← hV] at hown
     have HV1 := Lib.hid hV1
     have F3 := Lib.hid (And.intro hb (And.intro hb2 hown))
     clear hb hb2 hown hV hV1 hlk Htk
     by_cases hpit : isPit side p d = true
     ·
      have hp2 := hpit
      unfold isPit at hp2
      simp only [Bool.and_eq_true] at hp2
      obtain ⟨⟨z1, z2⟩, z3⟩ := hp2
      rw [if_pos hpit] at HV1
      clear hpit
      have hcs := new_cells wr #[.int .i64 d.side, .int .i64 d.slot, .int .i64 d.pos, .string d.name, .int .i64 d.fr, .int .i64 d.to] 124
      have Hcs := Lib.hid hcs; clear hcs
      have hsz := F3.out.2.1.size
      go_wp2_with (at_builtin; refine wpList_append_own _ rfl _ _ 90 rfl w2.heap.size 124 i0 (.agg #[.int .i64 0, .int .i64 0, .int .i64 0, .string { data := #[] }, .int .i64 0, .int .i64 0]) 6 56 Tryz.underlying90 hi hz0 hz1 hz2 rfl (by decide) _ _ _ rfl (F3.out.2.2.alloc _) ⟨wr.heap.size, 0, none⟩ 1 1 (#[.int .i64 d.side, .int .i64 d.slot, .int .i64 d.pos, .string d.name, .int .i64 d.fr, .int .i64 d.to] : Array Value).toList rfl rfl Hcs.out (by simp [Value.oneCell']) (by unfold maxLen; omega) (by omega) (by simp; omega) ?_; intro v' w5 hown' hgrow hnil)
      go_roundw
      case rel =>
       refine ⟨q + 1, by omega, by go_num, (bt_alloc F3.out.1 _).grown hgrow (by simp; omega) (fun r e => by have := (F3.out.2.2.lt r e).1; omega), (bt_alloc F3.out.2.1 _).grown hgrow (by simp; omega) (fun r e => (F3.out.2.2.lt r e).1), ?_⟩
       rw [HV1.out, flatS_append, flatS_one, List.length_append]
       exact hown'
      case measure => simp [intOf]; omega
     ·
      have hpf : isPit side p d = false := by simpa using hpit
      rw [if_neg hpit, List.append_nil] at HV1
      unfold isPit at hpf
      clear hpit
      go_upto_region 9 with fail
      go_cut [51] from 22 to 58 (fun s51 w3 => s51 = .bool false ∧ w3 = wr)
      case first =>
       cases z1 : (d.side == side)
       ·
        clear hpf
        go_wp2
        go_meet
        exact ⟨rfl, rfl⟩
       ·
        cases z2 : (d.pos == 1)
        ·
         clear hpf
         go_wp2
         go_meet
         exact ⟨rfl, rfl⟩
        ·
         have z3 : (d.fr == (p : Int)) = false := by rw [z1, z2] at hpf; simpa using hpf
         clear hpf
         go_wp2
         go_meet
         exact ⟨rfl, rfl⟩
      case rest =>
       obtain ⟨rfl, hwc⟩ := hcut
       rw [hwc]
       clear hwc c0 c1 c2 c3 c4 c5 hpf
       go_wp2
       go_roundw
       case rel =>
        refine ⟨q + 1, by omega, by go_num, F3.out.1, F3.out.2.1, ?_⟩
        rw [HV1.out]; exact F3.out.2.2
       case measure => simp [intOf]; omega
    ·
     obtain rfl : q = m := by omega
     have e0 : S.take q = S := List.take_of_length_le (by rw [← Hm.out]; exact Nat.le_refl _)
     rw [e0] at hown hlk
     have F4 := Lib.hid (And.intro hb (And.intro hb2 hown))
     clear hb hb2 hown
     go_wp2
     go_roundw
     case rel =>
      refine ⟨p + 1, by omega, by go_num, F4.out.1, F4.out.2.1, ?_, ?_⟩
      ·
       rw [Hsucc.out]; exact F4.out.2.2
      ·
       rw [Hsucc.out, List.length_append]; omega
     case measure => simp [intOf]; omega
  ·
   obtain rfl : p = N := by omega
   go_wp2
   go_ret
   exact ⟨⟨_, rfl, SlK.of_own F2.out.2.2⟩, F2.out.1⟩
end Go.Proofs.YtmagppkclnebjaaGreatDoor
