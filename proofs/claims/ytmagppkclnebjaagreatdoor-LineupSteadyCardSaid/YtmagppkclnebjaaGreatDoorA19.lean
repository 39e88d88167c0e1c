/- lineup.Played: during how many plays a player is in the game. -/
import Derived.Test.YtmagppkclnebjaaGreatDoorA18
set_option linter.unusedVariables false
set_option linter.unusedSimpArgs false
set_option linter.unusedSimpArgs false
namespace Go.Proofs.YtmagppkclnebjaaGreatDoor
open Go.RowKit
open L

/-- the closure of Played -/
theorem isHim_any (d : Chg) (bx : Nat) (name : Str) (w : World) (h : Bk w bx 9 #[.string name]) :
 Calls Tryz.prog 106 #[.agg #[.int .i64 d.side, .int .i64 d.play, .int .i64 d.slot, .string d.name, .int .i64 d.pos], .pointer (some ⟨bx, 0, none⟩)] w fun x w' => x = .returned (.bool (decide (d.name = name))) ∧ Below w.heap.size w w' := by
 have hb := Lib.hid (bt_new w (.cells #[.int .i64 d.side, .int .i64 d.play, .int .i64 d.slot, .string d.name, .int .i64 d.pos] 142))
 have c0 : (w.alloc (.cells #[.int .i64 d.side, .int .i64 d.play, .int .i64 d.slot, .string d.name, .int .i64 d.pos] 142)).cell? ⟨bx, 0, none⟩ = some (.string name) := by rw [(h.alloc _).cell]; rfl
 clear h
 by_cases h1 : d.name = name
 ·
  have ht := tl_eq h1
  have H1 := Lib.hid h1; clear h1
  go_enter Tryz.func106, Tryz.ntmps106
  go_wp2
  go_ret
  exact ⟨ret_bool (by rw [show decide (d.name = name) = true by simpa using H1.out]), hb.out⟩
 ·
  have ht := tl_ne h1
  have H1 := Lib.hid h1; clear h1
  go_enter Tryz.func106, Tryz.ntmps106
  go_wp2
  go_ret
  exact ⟨ret_bool (by rw [show decide (d.name = name) = false by simpa using H1.out]), hb.out⟩

set_option maxHeartbeats 2000000 in
theorem indexChg_any (name : Str) (bx : Nat) (l : List Chg) (A : Option Addr) (n c : Nat) (w : World) (hn : l.length = n) (hle : n ≤ 100000) (h : RdC w A l) (hbx : Bk w bx 9 #[.string name]) :
 Calls Tryz.prog 115 #[.slice A n c, .func (.func 106) #[] #[.pointer (some ⟨bx, 0, none⟩)]] w fun x w' => x = .returned (.int .i64 (idxF (fun d => decide (d.name = name)) l)) ∧ Below w.heap.size w w' := by
 have Hn := Lib.hid hn; have H := Lib.hid h; have Hbx := Lib.hid hbx
 clear hn h hbx
 go_enter Tryz.func115, Tryz.ntmps115
 go_wp2
 go_loopw [8] (fun i wr => ∃ k : Nat, k ≤ n ∧ i = .int .i64 k ∧ Below w.heap.size w wr ∧ ∀ j, j < k → decide ((l.getD j ⟨0, 0, 0, .empty, 0⟩).name = name) = false) (fun i _ => n - (intOf i).toNat)
 case atStart => exact ⟨0, Nat.zero_le _, rfl, Below.refl _ _, by intro j hj; omega⟩
 case round =>
  obtain ⟨k, hk, rfl, hb, hj⟩ := hrel
  have Hb := Lib.hid hb; have Hj := Lib.hid hj; clear hb hj
  by_cases hlt : k < n
  ·
   obtain ⟨b, off, rfl, hc⟩ := (H.out.below Hb.out) k (by rw [Hn.out]; exact hlt)
   generalize he : l.getD k ⟨0, 0, 0, .empty, 0⟩ = d at hc
   have He := Lib.hid he; clear he
   have c0 : wr.cell? ⟨b, off + k * 5, none⟩ = some (.int .i64 d.side) := hc 0 (by omega)
   have c1 : wr.cell? ⟨b, off + k * 5 + 1, none⟩ = some (.int .i64 d.play) := hc 1 (by omega)
   have c2 : wr.cell? ⟨b, off + k * 5 + 2, none⟩ = some (.int .i64 d.slot) := hc 2 (by omega)
   have c3 : wr.cell? ⟨b, off + k * 5 + 3, none⟩ = some (.string d.name) := hc 3 (by omega)
   have c4 : wr.cell? ⟨b, off + k * 5 + 4, none⟩ = some (.int .i64 d.pos) := hc 4 (by omega)
   clear hc
   have hcl := isHim_any d bx name wr (Hbx.out.below Hb.out Hbx.out.lt)
   generalize hq : decide (d.name = name) = q at hcl
   have Hq := Lib.hid hq; have Hcl := Lib.hid hcl; clear hq hcl
   cases q with
   | true =>
    go_wp2_with (go_at_call 106; refine Hcl.out.mono ?_; rintro e w2 ⟨rfl, hb2⟩)
    go_ret
    exact ⟨ret_int (idxF_hit _ _ ⟨0, 0, 0, .empty, 0⟩ k (by rw [Hn.out]; exact hlt) Hj.out (by rw [He.out, Hq.out])).symm, bt_trans Hb.out hb2⟩
   | false =>
    go_wp2_with (go_at_call 106; refine Hcl.out.mono ?_; rintro e w2 ⟨rfl, hb2⟩)
    go_roundw
    case rel =>
     refine ⟨k + 1, by omega, by go_num, bt_trans Hb.out hb2, fun j hj => ?_⟩
     rcases Nat.lt_succ_iff_lt_or_eq.1 hj with h1 | rfl
     ·
      exact Hj.out j h1
     ·
      rw [He.out, Hq.out]
    case measure => simp [intOf]; omega
  ·
   go_wp2
   go_ret
   exact ⟨ret_int (idxF_miss _ _ ⟨0, 0, 0, .empty, 0⟩ (fun j hj => Hj.out j (by have := Hn.out; omega))).symm, Hb.out⟩
theorem containsChg_any (name : Str) (bx : Nat) (l : List Chg) (A : Option Addr) (n c : Nat) (w : World) (hn : l.length = n) (hle : n ≤ 100000) (h : RdC w A l) (hbx : Bk w bx 9 #[.string name]) :
 Calls Tryz.prog 105 #[.slice A n c, .func (.func 106) #[] #[.pointer (some ⟨bx, 0, none⟩)]] w fun x w' => x = .returned (.bool (l.any fun d => decide (d.name = name))) ∧ Below w.heap.size w w' := by
 have hc := indexChg_any name bx l A n c w hn hle h hbx
 have he := idxF_nonneg (fun d : Chg => decide (d.name = name)) l
 generalize idxF (fun d : Chg => decide (d.name = name)) l = r at hc he
 generalize l.any (fun d => decide (d.name = name)) = q at he ⊢
 have Hc := Lib.hid hc; have He := Lib.hid he; clear hc h he hn hbx
 go_enter Tryz.func105, Tryz.ntmps105
 go_wp2_with (go_at_call 115; refine Hc.out.mono ?_; rintro e w' ⟨rfl, hb⟩)
 go_ret
 exact ⟨ret_bool He.out, hb⟩

/-- the stints' plays are those of the game -/
theorem stLoop_in (n side slot : Int) : ∀ (r : List Chg) (now : Sti), (∀ d ∈ r, 0 ≤ d.play) → 0 ≤ now.fr → ∀ s ∈ stLoop n side slot now r, 0 ≤ s.fr ∧ s.fr < s.to ∧ s.to ≤ n
 | [], now, _, h0, s, hs => by
  unfold stLoop at hs
  split at hs
  ·
   rename_i h
   simp at hs
   subst hs
   exact ⟨h0, h, Int.le_refl _⟩
  ·
   simp at hs
 | d :: r, now, hd, h0, s, hs => by
  unfold stLoop at hs
  split at hs
  ·
   exact stLoop_in n side slot r now (fun e he => hd e (List.mem_cons_of_mem _ he)) h0 s hs
  ·
   rename_i hc
   rcases List.mem_append.1 hs with h | h
   ·
    split at h
    ·
     rename_i h1
     simp at h
     subst h
     exact ⟨h0, h1, by simp at hc ⊢; omega⟩
    ·
     simp at h
   ·
    exact stLoop_in n side slot r _ (fun e he => hd e (List.mem_cons_of_mem _ he)) (hd d (List.mem_cons_self)) s h
theorem allL_in (t : Tms) (l : List Chg) (n : Int) (hd : ∀ d ∈ l, 0 ≤ d.play) : ∀ s ∈ allL t l n, 0 ≤ s.fr ∧ s.fr < s.to ∧ s.to ≤ n := fun s hs => by
 unfold allL sideL at hs
 simp only [List.mem_append, List.mem_flatMap] at hs
 rcases hs with ⟨j, _, h⟩ | ⟨j, _, h⟩
 ·
  exact stLoop_in n _ _ l _ hd (Int.le_refl _) s h
 ·
  exact stLoop_in n _ _ l _ hd (Int.le_refl _) s h
def L.playedE (t : Tms) (l : List Chg) (p : Int) (name : Str) : Int := firstE [checkChanges t l, withinE p 0 256, namedE name]
def L.playedR (t : Tms) (l : List Chg) (p : Int) (name : Str) : Int × Int :=
 if playedE t l p name ≠ 0 then (0, playedE t l p name) else if knownIn t l name then (sumOf (allL t l p) name, 0) else (0, 10)
end Go.Proofs.YtmagppkclnebjaaGreatDoor
