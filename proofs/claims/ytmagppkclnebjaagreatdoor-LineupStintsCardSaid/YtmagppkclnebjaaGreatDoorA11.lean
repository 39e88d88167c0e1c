/- lineup.Deviate and Improper: the first deviation, and the indices of all improper names. -/
import Derived.Test.YtmagppkclnebjaaGreatDoorA10
import Derived.WalkMore
import Derived.StillTailTactics
set_option linter.unusedVariables false
set_option linter.unusedSimpArgs false
set_option linter.unusedSimpArgs false
namespace Go.Proofs.YtmagppkclnebjaaGreatDoor
open Go.RowKit
open L

def L.Dev.val (d : Dev) : Array Value := #[.int .i64 d.idx, .string d.proper, .string d.came, .string d.next]
def L.deviateR (X : LU) (slot : Int) (came : List Str) : Dev × Int :=
  if checkCame X slot came ≠ 0 then (Dev.zero, checkCame X slot came)
  else match devL X 0 (slot - 1).toNat came with | some d => (d, 0) | none => (Dev.zero, 7)
def L.improperR (X : LU) (slot : Int) (came : List Str) : List Int × Int :=
  if checkCame X slot came ≠ 0 then ([], checkCame X slot came) else (impL X 0 (X.b.getD (slot - 1).toNat .empty) came, 0)
theorem checkCame_zero {X : LU} {slot : Int} {came : List Str} (h : checkCame X slot came = 0) : checkLineup X = 0 ∧ (1 ≤ slot ∧ slot ≤ 9) ∧ came.length ≤ 256 ∧ ∀ s ∈ came, s ∈ X.b := by
  unfold checkCame at h
  split at h
  · contradiction
  · rename_i h0
    obtain ⟨h1, h2, h3⟩ := firstE3 (by simpa [checkCameE] using h0)
    refine ⟨h1, withinE_zero h2, ?_, fun s hs => ?_⟩
    · by_cases hl : came.length ≤ 256
      · exact hl
      · rw [whenE, if_pos (by simp; omega)] at h3; cases h3
    · by_cases hm : s ∈ X.b
      · exact hm
      · rw [whenE, if_pos (by rw [List.any_eq_true]; exact ⟨s, hs, by simpa using hm⟩)] at h; cases h
theorem when_still (b : Bool) (e : Int) (w : World) : Calls Tryz.prog 68 #[.bool b, .int .i64 e] w fun x w' => x = .returned (.int .i64 (whenE b e)) ∧ w' = w := (when_any b e w).mono fun _ _ ⟨h1, h2⟩ => ⟨h1, h2.symm⟩
theorem info29 : (Tryz.prog.info? 29).map (·.size) = some 4 := by kernel_rfl

set_option maxHeartbeats 4000000 in
set_option maxRecDepth 100000 in
theorem deviate_any (l : LU) (hl : l.ok) (A : Array Value) (hA : A = l.cells.toArray) (slot : Int) (came : List Str) (C : Option Addr) (n c : Nat) (hn : came.length = n) (hle : n ≤ 1000000) (w : World) (hc : Rd w C (came.map .string)) :
    Calls Tryz.prog 14 #[.agg A, .int .i64 slot, .slice C n c] w fun x w' => x = .returned (.tuple #[.agg (deviateR l slot came).1.val, .int .i64 (deviateR l slot came).2]) ∧ Below w.heap.size w w' := by
  have hB := bt_alloc (bt_new w (.cells A 33)) (.cells #[.int .i64 0, .string { data := #[] }, .string { data := #[] }, .string { data := #[] }] 29)
  have hbk : Bk ((w.alloc (.cells A 33)).alloc (.cells #[.int .i64 0, .string { data := #[] }, .string { data := #[] }, .string { data := #[] }] 29)) w.heap.size 33 A := (Bk.new _ _ _).alloc _
  have hbr : Bk ((w.alloc (.cells A 33)).alloc (.cells #[.int .i64 0, .string { data := #[] }, .string { data := #[] }, .string { data := #[] }] 29)) (w.heap.size + 1) 29 #[.int .i64 0, .string { data := #[] }, .string { data := #[] }, .string { data := #[] }] := by
    have := Bk.new (w.alloc (.cells A 33)) 29 #[.int .i64 0, .string { data := #[] }, .string { data := #[] }, .string { data := #[] }]
    rwa [World.size_alloc] at this
  have hs0 : ((w.alloc (.cells A 33)).alloc (.cells #[.int .i64 0, .string { data := #[] }, .string { data := #[] }, .string { data := #[] }] 29)).heap.size = w.heap.size + 2 := by simp
  have Hi := Lib.hid (show (Tryz.prog.info? 33).map (·.size) = some A.size by rw [info33, hA, LU.size18 l hl])
  have hcall := checkCame_any l hl A hA slot came C n c hn (by omega) ((w.alloc (.cells A 33)).alloc (.cells #[.int .i64 0, .string { data := #[] }, .string { data := #[] }, .string { data := #[] }] 29)) (hc.below hB)
  have Hl := Lib.hid hl; have HA := Lib.hid hA; have Hn := Lib.hid hn; have Hbk := Lib.hid hbk; have Hbr := Lib.hid hbr; have HB := Lib.hid hB; have Hc := Lib.hid hc; have Hcall := Lib.hid hcall; have Hs0 := Lib.hid hs0
  clear hl hA hn hbk hbr hB hc hcall hs0
  by_cases hE : checkCame l slot came = 0
  · obtain ⟨_, ⟨hs1, hs9⟩, h256, _⟩ := checkCame_zero hE
    obtain ⟨i0, hi0, rfl⟩ : ∃ i0 : Nat, i0 < 9 ∧ slot = (i0 : Int) + 1 := ⟨(slot - 1).toNat, by omega, by omega⟩
    have hR : deviateR l ((i0 : Int) + 1) came = match devL l 0 i0 came with | some d => (d, 0) | none => (Dev.zero, 7) := by
      unfold deviateR
      rw [if_neg (by rw [hE]; simp), show ((i0 : Int) + 1 - 1).toNat = i0 by omega]
    have HR := Lib.hid hR; clear hR
    rw [hE] at Hcall
    have q1 : IntKind.i64.wrap ((i0 : Int) + 1 - 1) = (i0 : Int) := by rw [IntWalk.i64_in _ (by omega)]; omega
    have q2 : (0 : Int) ≤ (i0 : Int) := by omega
    have q3 : (i0 : Int) < 9 := by omega
    clear hE hs1 hs9
    go_enter Tryz.func14, Tryz.ntmps14
    go_wp2
    go_step3
    go_upto_region 5 with (first
      | (refine wpList_load_row rfl 33 _ rfl w.heap.size rfl 33 A (0, 0) _ Hbk.out Tryz.underlying33 rfl Hi.out ?_)
      | (go_at_call 66; refine Hcall.out.mono ?_; rintro e w1 ⟨rfl, hb1⟩))
    have F : Hid (Below w.heap.size w (w1.alloc (.cells #[.int .i64 0, .string { data := #[] }, .string { data := #[] }, .string { data := #[] }] 29)) ∧
        Bk (w1.alloc (.cells #[.int .i64 0, .string { data := #[] }, .string { data := #[] }, .string { data := #[] }] 29)) w.heap.size 33 l.cells.toArray ∧
        Bk (w1.alloc (.cells #[.int .i64 0, .string { data := #[] }, .string { data := #[] }, .string { data := #[] }] 29)) (w.heap.size + 1) 29 #[.int .i64 0, .string { data := #[] }, .string { data := #[] }, .string { data := #[] }] ∧
        Bk (w1.alloc (.cells #[.int .i64 0, .string { data := #[] }, .string { data := #[] }, .string { data := #[] }] 29)) w1.heap.size 29 #[.int .i64 0, .string { data := #[] }, .string { data := #[] }, .string { data := #[] }] ∧ w.heap.size + 1 < w1.heap.size) := by
      have hz := hb1.size
      rw [Hs0.out] at hz
      exact ⟨bt_alloc (bt_trans HB.out hb1) _, by rw [← HA.out]; exact (Hbk.out.below hb1 Hbk.out.lt).alloc _, (Hbr.out.below hb1 Hbr.out.lt).alloc _, Bk.new _ _ _, by omega⟩
    clear hb1
    generalize (w1.alloc (.cells #[.int .i64 0, .string { data := #[] }, .string { data := #[] }, .string { data := #[] }] 29)) = W1 at F ⊢
    generalize w1.heap.size = D at F ⊢
    have c0 := LU.cell_b Hl.out F.out.2.1 i0 hi0
    generalize hp0 : l.b.getD i0 .empty = p0 at c0
    have Hp0 := Lib.hid hp0; clear hp0
    go_upto_region 6 with fail
    clear c0
    go_step3
    go_wp2
    go_loopw [10, 11, 12, 35] (fun f a b e wr => ∃ (k i : Nat), k ≤ n ∧ i < 9 ∧ f = .bool false ∧ a = .string (l.b.getD i .empty) ∧ b = .int .i64 i ∧ e = .int .i64 k ∧ Below w.heap.size w wr ∧ Bk wr w.heap.size 33 l.cells.toArray ∧ Bk wr (w.heap.size + 1) 29 #[.int .i64 0, .string { data := #[] }, .string { data := #[] }, .string { data := #[] }] ∧ Bk wr D 29 #[.int .i64 0, .string { data := #[] }, .string { data := #[] }, .string { data := #[] }] ∧ devL l 0 i0 came = devL l k i (came.drop k)) (fun _ _ _ e _ => n - (intOf e).toNat)
    case atStart => exact ⟨0, i0, by omega, hi0, rfl, by rw [Hp0.out], rfl, rfl, F.out.1, F.out.2.1, F.out.2.2.1, F.out.2.2.2.1, by simp⟩
    case round =>
      obtain ⟨k, i, hk, hi9, rfl, rfl, rfl, rfl, hb, hbk, hbr, hbd, hdv⟩ := hrel
      have hDw : w.heap.size + 1 < D := F.out.2.2.2.2
      clear F
      have Hb := Lib.hid hb; have Hbk := Lib.hid hbk; have Hbr := Lib.hid hbr; have Hbd := Lib.hid hbd; have Hdv := Lib.hid hdv
      clear hb hbk hbr hbd hdv
      have Hi2 := Lib.hid (show (Tryz.prog.info? 33).map (·.size) = some l.cells.toArray.size by rw [info33, LU.size18 l Hl.out])
      generalize hpp : l.b.getD i .empty = pp
      have Hpp := Lib.hid hpp; clear hpp
      by_cases hkn : k < n
      · obtain ⟨b, off, rfl, hc1⟩ := (Hc.out.below Hb.out).str (k := k) (by rw [Hn.out]; exact hkn)
        have hdr : came.drop k = came.getD k .empty :: came.drop (k + 1) := by
          have hkl : k < came.length := by rw [Hn.out]; exact hkn
          rw [List.drop_eq_getElem_cons hkl]
          simp [List.getD, List.getElem?_eq_getElem hkl]
        generalize came.getD k .empty = s at hc1 hdr
        have Hdr := Lib.hid hdr; clear hdr
        obtain ⟨j, hj, hj9⟩ : ∃ j : Nat, (i + 1) % 9 = j ∧ j < 9 := ⟨_, rfl, by omega⟩
        have hbh := fun W => behind_any l Hl.out l.cells.toArray rfl i hi9 W
        rw [hj] at hbh
        have Hbh := Lib.hid hbh; have Hj := Lib.hid hj; clear hbh hj
        generalize hnx : l.b.getD j .empty = nx at Hbh
        have Hnx := Lib.hid hnx; clear hnx
        by_cases hsp : s = pp
        · have ht := tl_eq hsp
          have Hsp := Lib.hid hsp; clear hsp
          go_wp2_with (first
            | (refine wpList_load_row rfl 33 _ rfl w.heap.size rfl 33 l.cells.toArray (0, 0) _ Hbk.out Tryz.underlying33 rfl Hi2.out ?_)
            | (go_at_call 67; refine (Hbh.out _).mono ?_; rintro e w2 ⟨rfl, hb2⟩))
          go_roundw
          case rel =>
            refine ⟨k + 1, j, by omega, hj9, rfl, by rw [Hnx.out], rfl, by go_num, bt_trans Hb.out hb2, Hbk.out.below hb2 Hbk.out.lt, Hbr.out.below hb2 Hbr.out.lt, Hbd.out.below hb2 Hbd.out.lt, ?_⟩
            rw [Hdv.out, Hdr.out, devL, Hpp.out, if_neg (by rw [Hsp.out]; simp), Hj.out]
          case measure => simp [intOf]; omega
        · have ht := tl_ne hsp
          have Hsp := Lib.hid hsp; clear hsp
          have hdev : devL l 0 i0 came = some ⟨k, pp, s, nx⟩ := by
            rw [Hdv.out, Hdr.out, devL, Hpp.out, if_pos Hsp.out, Hj.out, Hnx.out]
          have Hdev := Lib.hid hdev; clear hdev
          have Hi29 := Lib.hid (show (Tryz.prog.info? 29).map (·.size) = some (#[.int .i64 k, .string pp, .string s, .string nx] : Array Value).size by rw [info29]; rfl)
          have Hone : Hid ((#[.int .i64 k, .string pp, .string s, .string nx] : Array Value).all (·.oneCell') = true) := by show _ = _; simp [Value.oneCell']
          go_upto_region 14 with (first
            | (refine wpList_load_row rfl 33 _ rfl w.heap.size rfl 33 l.cells.toArray (0, 0) _ Hbk.out Tryz.underlying33 rfl Hi2.out ?_)
            | (go_at_call 67; refine (Hbh.out _).mono ?_; rintro e w2 ⟨rfl, hb2⟩)
            | (refine wpList_store_mid rfl 29 (.tmp 9) (.tmp 53) rfl D 0 #[.int .i64 k, .string pp, .string s, .string nx] rfl rfl ((Hbd.out.below hb2 Hbd.out.lt).there 4 (by simp)) Hi29.out Hone.out ?_))
          have F5 : Hid (Below w.heap.size w (w2.setCells D 0 (#[.int .i64 k, .string pp, .string s, .string nx] : Array Value).toList) ∧ Bk (w2.setCells D 0 (#[.int .i64 k, .string pp, .string s, .string nx] : Array Value).toList) (w.heap.size + 1) 29 #[.int .i64 0, .string { data := #[] }, .string { data := #[] }, .string { data := #[] }] ∧
              Bk (w2.setCells D 0 (#[.int .i64 k, .string pp, .string s, .string nx] : Array Value).toList) D 29 #[.int .i64 k, .string pp, .string s, .string nx]) :=
            ⟨below_sets (by omega) (bt_trans Hb.out hb2) _ _, Bk.setsFar (by omega) _ _ (Hbr.out.below hb2 Hbr.out.lt), (Hbd.out.below hb2 Hbd.out.lt).fill _ rfl⟩
          clear hb2 Hb Hbk Hbr Hbd
          generalize w2.setCells D 0 (#[.int .i64 k, .string pp, .string s, .string nx] : Array Value).toList = W5 at F5 ⊢
          have d0 : W5.cell? ⟨D, 0, none⟩ = some (.int .i64 k) := by rw [F5.out.2.2.cell]; rfl
          have d1 : W5.cell? ⟨D, 1, none⟩ = some (.string pp) := by rw [F5.out.2.2.cell]; rfl
          have d2 : W5.cell? ⟨D, 2, none⟩ = some (.string s) := by rw [F5.out.2.2.cell]; rfl
          have d3 : W5.cell? ⟨D, 3, none⟩ = some (.string nx) := by rw [F5.out.2.2.cell]; rfl
          refine wp_region_still_tail 4 (by kernel_rfl) (by kernel_rfl) ?_
          simp only [List.take_succ_cons, List.take_zero, List.drop_succ_cons, List.drop_zero]
          still_step
          still_step
          still_step
          still_call (when_still _ _ _)
          refine wpStill_nil ?_
          change wpList _ _ _ _ _ W5.drew
          have F6 : Hid (Below w.heap.size w W5.drew ∧ Bk W5.drew (w.heap.size + 1) 29 #[.int .i64 0, .string { data := #[] }, .string { data := #[] }, .string { data := #[] }]) := ⟨bt_drew F5.out.1, F5.out.2.1.drew⟩
          clear F5 d0 d1 d2 d3
          generalize W5.drew = W6 at F6 ⊢
          go_wp2_with (first
            | (go_at_call 68; refine (when_any _ _ _).mono ?_; rintro e w' ⟨rfl, rfl⟩)
            | (refine wp_store_mid 29 (.tmp 6) (.tmp 57) rfl (w.heap.size + 1) 0 #[.int .i64 k, .string pp, .string s, .string nx] rfl rfl (F6.out.2.there 4 (by simp)) Hi29.out Hone.out ?_)
            | (refine wpList_store_mid rfl 29 (.tmp 6) (.tmp 57) rfl (w.heap.size + 1) 0 #[.int .i64 k, .string pp, .string s, .string nx] rfl rfl (F6.out.2.there 4 (by simp)) Hi29.out Hone.out ?_))
          rw [Exit.noGoto_ret]
          refine bodyPost_ret (results_cell_row2 rfl _ _ (w.heap.size + 1) 29 #[.int .i64 k, .string pp, .string s, .string nx] _ rfl (F6.out.2.fill _ rfl) Tryz.underlying29 rfl Hi29.out) rfl ?_
          refine ⟨by rw [HR.out, Hdev.out]; rfl, below_sets (by omega) F6.out.1 _ _⟩
      · obtain rfl : k = n := by omega
        obtain ⟨wo, hwo⟩ : ∃ wo : World, wo = wr := ⟨_, rfl⟩
        rw [← hwo] at Hb Hbk Hbr Hbd ⊢
        clear hwo
        have Hi29 := Lib.hid (show (Tryz.prog.info? 29).map (·.size) = some (#[.int .i64 0, .string { data := #[] }, .string { data := #[] }, .string { data := #[] }] : Array Value).size by rw [info29]; rfl)
        have Hone : Hid ((#[.int .i64 0, .string { data := #[] }, .string { data := #[] }, .string { data := #[] }] : Array Value).all (·.oneCell') = true) := by show _ = _; simp [Value.oneCell']
        have hdev : devL l 0 i0 came = none := by
          rw [Hdv.out, List.drop_of_length_le (by rw [Hn.out]; exact Nat.le_refl _), devL]
        have Hdev := Lib.hid hdev; clear hdev
        have d0 : wo.cell? ⟨D, 0, none⟩ = some (.int .i64 0) := by rw [Hbd.out.cell]; rfl
        have d1 : wo.cell? ⟨D, 1, none⟩ = some (.string { data := #[] }) := by rw [Hbd.out.cell]; rfl
        have d2 : wo.cell? ⟨D, 2, none⟩ = some (.string { data := #[] }) := by rw [Hbd.out.cell]; rfl
        have d3 : wo.cell? ⟨D, 3, none⟩ = some (.string { data := #[] }) := by rw [Hbd.out.cell]; rfl
        go_upto_region 14 with fail
        refine wp_region_still_tail 4 (by kernel_rfl) (by kernel_rfl) ?_
        simp only [List.take_succ_cons, List.take_zero, List.drop_succ_cons, List.drop_zero]
        still_step
        still_step
        still_step
        still_call (when_still _ _ _)
        refine wpStill_nil ?_
        change wpList _ _ _ _ _ wo.drew
        have F6 : Hid (Below w.heap.size w wo.drew ∧ Bk wo.drew (w.heap.size + 1) 29 #[.int .i64 0, .string { data := #[] }, .string { data := #[] }, .string { data := #[] }]) := ⟨bt_drew Hb.out, Hbr.out.drew⟩
        clear Hb Hbk Hbr Hbd d0 d1 d2 d3
        generalize wo.drew = W6 at F6 ⊢
        go_wp2_with (first
          | (go_at_call 68; refine (when_any _ _ _).mono ?_; rintro e w' ⟨rfl, rfl⟩)
          | (refine wp_store_mid 29 (.tmp 6) (.tmp 57) rfl (w.heap.size + 1) 0 #[.int .i64 0, .string { data := #[] }, .string { data := #[] }, .string { data := #[] }] rfl rfl (F6.out.2.there 4 (by simp)) Hi29.out Hone.out ?_)
          | (refine wpList_store_mid rfl 29 (.tmp 6) (.tmp 57) rfl (w.heap.size + 1) 0 #[.int .i64 0, .string { data := #[] }, .string { data := #[] }, .string { data := #[] }] rfl rfl (F6.out.2.there 4 (by simp)) Hi29.out Hone.out ?_))
        rw [Exit.noGoto_ret]
        refine bodyPost_ret (results_cell_row2 rfl _ _ (w.heap.size + 1) 29 #[.int .i64 0, .string { data := #[] }, .string { data := #[] }, .string { data := #[] }] _ rfl (F6.out.2.fill _ rfl) Tryz.underlying29 rfl Hi29.out) rfl ?_
        refine ⟨by rw [HR.out, Hdev.out]; rfl, below_sets (by omega) F6.out.1 _ _⟩
  · have hz : (checkCame l slot came != 0) = true := by simpa using hE
    have HE := Lib.hid hE; clear hE
    have Hi29 := Lib.hid (show (Tryz.prog.info? 29).map (·.size) = some (#[.int .i64 0, .string { data := #[] }, .string { data := #[] }, .string { data := #[] }] : Array Value).size by rw [info29]; rfl)
    have Hone : Hid ((#[.int .i64 0, .string { data := #[] }, .string { data := #[] }, .string { data := #[] }] : Array Value).all (·.oneCell') = true) := by show _ = _; simp [Value.oneCell']
    go_enter Tryz.func14, Tryz.ntmps14
    go_wp2
    go_step3
    go_wp2_with (first
      | (refine wpList_load_row rfl 33 _ rfl w.heap.size rfl 33 A (0, 0) _ Hbk.out Tryz.underlying33 rfl Hi.out ?_)
      | (go_at_call 66; refine Hcall.out.mono ?_; rintro e w1 ⟨rfl, hb1⟩)
      | (refine wpList_store_mid rfl 29 (.tmp 6) (.tmp 23) rfl (w.heap.size + 1) 0 #[.int .i64 0, .string { data := #[] }, .string { data := #[] }, .string { data := #[] }] rfl rfl ((Hbr.out.below hb1 Hbr.out.lt).there 4 (by simp)) Hi29.out Hone.out ?_))
    rw [Exit.noGoto_ret]
    refine bodyPost_ret (results_cell_row2 rfl _ _ (w.heap.size + 1) 29 #[.int .i64 0, .string { data := #[] }, .string { data := #[] }, .string { data := #[] }] _ rfl ((Hbr.out.below hb1 Hbr.out.lt).fill _ rfl) Tryz.underlying29 rfl Hi29.out) rfl ?_
    refine ⟨by unfold deviateR; rw [if_pos HE.out]; rfl, below_sets (by omega) (bt_trans HB.out hb1) _ _⟩
end Go.Proofs.YtmagppkclnebjaaGreatDoor
