/- The facts of LineupHalves. -/
import Derived.Test.YtmagppkclnebjaaGreatDoorZ4
import Derived.Test.YtmagppkclnebjaaGreatDoorQx
set_option linter.unusedVariables false
set_option linter.unusedSimpArgs false
set_option linter.unusedSimpArgs false
set_option linter.unusedVariables false
namespace Go.Proofs.YtmagppkclnebjaaGreatDoor
open Go.RowKit
open L

theorem op_neq33 (w : World) (l m : LU) (hl : l.ok) (hm : m.ok) : (binOp .neq 33 (.agg l.cells.toArray) (.agg m.cells.toArray)).run Tryz.prog w = .ok (.bool (!decide (l = m))) w := by
 rw [run_neq_struct, eq33 w 9997 l m hl hm]; rfl
/-- the teams at the plays of a cut game, and who is there at first -/
def L.teamAt (t : Tms) (l : List Chg) (cut k : Nat) : Tms := atL t l (cut + k)
def L.whoAt (t : Tms) (l : List Chg) (cut k : Nat) : Str := holder ((teamAt t l cut k).get 0) 1
/-- what the callees of LineupHalves do, in the worlds of its walk -/
structure HlvC (P : World → Prop) (tc tu tv : List Value) (A : Option Addr) (n c : Nat) (l lu lv : List Chg) (mu cut : Nat) (ta ts : Nat → List Value) (wh : Nat → Str) : Prop where
 h13 : ∀ W, P W → Calls Tryz.prog 13 #[] W fun x w' => x = .returned (.bool true) ∧ Below W.heap.size W w'
 h34 : ∀ W, P W → Calls Tryz.prog 34 #[.agg (tc ++ [Value.slice A n c]).toArray] W fun x w' => x = .returned (.bool true) ∧ Below W.heap.size W w'
 h23 : ∀ W, Calls Tryz.prog 23 #[.agg tc.toArray] W fun x w' => x = .returned (.agg tc.toArray) ∧ Below W.heap.size W w'
 h24 : ∀ W, P W → Calls Tryz.prog 24 #[.slice A n c] W fun x w' => (∃ B d, x = .returned (.slice B n d) ∧ n ≤ d ∧ RdC w' B l ∧ ∀ a, B = some a → W.heap.size ≤ a.block ∧ a.block < w'.heap.size) ∧ Below W.heap.size W w'
 h58 : ∀ W B d, n ≤ d → RdC W B l → Calls Tryz.prog 58 #[.agg tc.toArray, .slice B n d, .int .i64 cut] W fun x w' => (∃ B0 d0, x = .returned (.tuple #[.agg tu.toArray, .slice B0 mu d0, .int .i64 0]) ∧ RdC w' B0 lu) ∧ Below W.heap.size W w'
 h57 : ∀ W B d, RdC W B l → Calls Tryz.prog 57 #[.agg tc.toArray, .slice B n d] W fun x w' => (∃ B0 d0, x = .returned (.tuple #[.agg tv.toArray, .slice B0 n d0, .int .i64 0]) ∧ RdC w' B0 lv) ∧ Below W.heap.size W w'
 h57v : ∀ W B d, RdC W B lv → Calls Tryz.prog 57 #[.agg tv.toArray, .slice B n d] W fun x w' => (∃ B0 d0, x = .returned (.tuple #[.agg tc.toArray, .slice B0 n d0, .int .i64 0]) ∧ RdC w' B0 l) ∧ Below W.heap.size W w'
 h61u : ∀ W B d, RdC W B lu → Calls Tryz.prog 61 #[.agg tu.toArray, .slice B mu d] W fun x w' => x = .returned (.int .i64 0) ∧ Below W.heap.size W w'
 h61v : ∀ W B d, RdC W B lv → Calls Tryz.prog 61 #[.agg tv.toArray, .slice B n d] W fun x w' => x = .returned (.int .i64 0) ∧ Below W.heap.size W w'
 h31 : ∀ W B d, RdC W B l → Calls Tryz.prog 31 #[.slice B n d] W fun x w' => (∃ A' c', x = .returned (.slice A' n c') ∧ RdC w' A' l) ∧ Below W.heap.size W w'
 h30 : ∀ W A' c', P W → RdC W A' l → Calls Tryz.prog 30 #[.slice A' n c', .slice A n c] W fun x w' => x = .returned (.bool true) ∧ Below W.heap.size W w'
 h35 : ∀ (k : Nat) W B d, k < 16 → RdC W B l → Calls Tryz.prog 35 #[.agg tc.toArray, .slice B n d, .int .i64 ((cut : Int) + k)] W fun x w' => x = .returned (.tuple #[.agg (ta k).toArray, .int .i64 0]) ∧ Below W.heap.size W w'
 h35u : ∀ (k : Nat) W B d, k < 16 → RdC W B lu → Calls Tryz.prog 35 #[.agg tu.toArray, .slice B mu d, .int .i64 k] W fun x w' => x = .returned (.tuple #[.agg (ta k).toArray, .int .i64 0]) ∧ Below W.heap.size W w'
 h35v : ∀ (k : Nat) W B d, k < 16 → RdC W B lv → Calls Tryz.prog 35 #[.agg tv.toArray, .slice B n d, .int .i64 ((cut : Int) + k)] W fun x w' => x = .returned (.tuple #[.agg (ts k).toArray, .int .i64 0]) ∧ Below W.heap.size W w'
 h37 : ∀ (k : Nat) W B d, k < 16 → RdC W B l → Calls Tryz.prog 37 #[.agg tc.toArray, .slice B n d, .int .i64 ((cut : Int) + k), .int .i64 0, .int .i64 1] W fun x w' => x = .returned (.tuple #[.string (wh k), .int .i64 0]) ∧ Below W.heap.size W w'
 h37v : ∀ (k : Nat) W B d, k < 16 → RdC W B lv → Calls Tryz.prog 37 #[.agg tv.toArray, .slice B n d, .int .i64 ((cut : Int) + k), .int .i64 1, .int .i64 1] W fun x w' => x = .returned (.tuple #[.string (wh k), .int .i64 0]) ∧ Below W.heap.size W w'
 gc : TC tc
 gu : TC tu
 gv : TC tv
 ga : ∀ k, TC (ta k)
 gs : ∀ k, TC (ts k)
 /-- the cells of one side -/
 parts : ∀ k, ∃ a b : List Value, ta k = a ++ b ∧ ts k = b ++ a ∧ a.length = 18 ∧ b.length = 18
 neq54 : ∀ W, (binOp .neq 54 (.agg tc.toArray) (.agg tc.toArray)).run Tryz.prog W = .ok (.bool false) W
 neq54a : ∀ k W, (binOp .neq 54 (.agg (ta k).toArray) (.agg (ta k).toArray)).run Tryz.prog W = .ok (.bool false) W
 neq33 : ∀ k (a b : List Value), ta k = a ++ b → a.length = 18 → ∀ W, (binOp .neq 33 (.agg a.toArray) (.agg a.toArray)).run Tryz.prog W = .ok (.bool false) W ∧ (binOp .neq 33 (.agg b.toArray) (.agg b.toArray)).run Tryz.prog W = .ok (.bool false) W

theorem hlv_facts (P : World → Prop) (w : World) (t : Tms) (ht : t.ok) (l : List Chg) (A : Option Addr) (n c K : Nat) (hn : l.length = n) (cut : Nat) (hcut : cut < 16) (hsz : ∀ s ∈ t.l0.b ++ t.l1.b, s.size ≤ 9223372036854775807) (hszl : ∀ d ∈ l, d.name.size ≤ 9223372036854775807) (hl : RdC w A l)
 (haw : ∀ W, Below w.heap.size w W → Calls Tryz.prog 13 #[] W fun x w' => x = .returned (.bool true) ∧ Below W.heap.size W w') (Gp : GP w t.cells A n c K P) (hv : validL t l = true) :
 HlvC P t.cells (atL t l ((cut : Int) - 1)).cells t.swap.cells A n c l (restR l cut) (swapR l) (restR l cut).length cut (fun k => (teamAt t l cut k).cells) (fun k => (teamAt t l cut k).swap.cells) (whoAt t l cut) := by
 have hlW : ∀ W, P W → RdC W A l := fun W h => hl.below (Gp.below _ h)
 obtain ⟨hsh, h8, hcc⟩ := valid_parts hv
 have h8' : n ≤ 8 := by omega
 have hs := plays_sorted (cc_sorted hcc)
 have hcu := split_valid ht hcc (cut : Int) (by omega)
 have hcv := swap_valid ht hcc
 have htu : (atL t l ((cut : Int) - 1)).ok := atL_ok _ _ _ ht
 have htv : t.swap.ok := ⟨ht.2, ht.1⟩
 have hta : ∀ k, (teamAt t l cut k).ok := fun k => atL_ok _ _ _ ht
 have hts : ∀ k, (teamAt t l cut k).swap.ok := fun k => ⟨(hta k).2, (hta k).1⟩
 have hnv : (swapR l).length = n := by rw [(swapR_perm l).length_eq, List.length_map, hn]
 have hlu : (restR l cut).length ≤ n := by unfold restR; rw [List.length_map, ← hn]; exact List.length_filter_le _ _
 have hix : ∀ (T : Tms) (L : List Chg) (p : Int), checkChanges T L = 0 → 0 ≤ p → p ≤ 256 → ccIdx T L p = 0 := fun T L p h h1 h2 => by
  have : withinE p 0 256 = 0 := by unfold withinE whenE; rw [if_neg]; simp; omega
  unfold ccIdx; rw [h, this]; rfl
 have hatR : ∀ (T : Tms) (L : List Chg) (p : Int), checkChanges T L = 0 → 0 ≤ p → p ≤ 256 → atR T L p = (atL T L p, 0) := fun T L p h h1 h2 => by
  unfold atR; rw [if_neg (by rw [hix T L p h h1 h2]; simp)]
 have hwhoR : ∀ (T : Tms) (L : List Chg) (p side : Int), checkChanges T L = 0 → 0 ≤ p → p ≤ 256 → (side = 0 ∨ side = 1) → whoR T L p side 1 = (holder ((atL T L p).get side) 1, 0) := fun T L p side h h1 h2 h3 => by
  have e1 : withinE p 0 256 = 0 := by unfold withinE whenE; rw [if_neg]; simp; omega
  have e2 : sidedE side = 0 := by unfold sidedE whenE; rw [if_neg]; simp; omega
  have e3 : withinE 1 1 9 = 0 := by decide
  unfold whoR
  rw [if_neg (by rw [h, e1, e2, e3]; decide)]
 have hsw : ∀ p : Int, atL t.swap (swapR l) p = (atL t l p).swap := fun p => by
  have h0 := swap_at hcc p 0 (.inl rfl)
  have h1 := swap_at hcc p 1 (.inr rfl)
  have e : ∀ T : Tms, T = ⟨T.get 0, T.get 1⟩ := fun T => rfl
  rw [e (atL t.swap (swapR l) p), h0, h1]; rfl
 refine { h13 := fun W h => haw W (Gp.below _ h), h34 := ?_, h23 := fun W => given_any t ht _ rfl W, h24 := ?_, h58 := ?_, h57 := ?_, h57v := ?_, h61u := ?_, h61v := ?_, h31 := ?_, h30 := ?_, h35 := ?_, h35u := ?_, h35v := ?_, h37 := ?_, h37v := ?_, gc := tc_of t ht, gu := tc_of _ htu, gv := tc_of _ htv, ga := fun k => tc_of _ (hta k), gs := fun k => tc_of _ (hts k), parts := ?_, neq54 := ?_, neq54a := ?_, neq33 := ?_ }
 ·
  intro W h
  have := valid_any t ht _ l A n c rfl hn hsz hszl W (hlW W h)
  rw [hv] at this; exact this
 ·
  intro W h
  exact listC_any l A n c hn (by omega) W (hlW W h)
 ·
  intro W B d hnd h
  have := split_any t ht _ rfl l B n d hn hnd cut W h
  have e : splitP t l cut = (atL t l ((cut : Int) - 1), restR l cut, 0) := by unfold splitP; rw [if_neg (by rw [hix t l cut hcc (by omega) (by omega)]; simp)]
  rw [e] at this; exact this
 ·
  intro W B d h
  have := swap_any t ht _ rfl l B n d hn W h (fun _ => by omega)
  have e : swapP t l = (t.swap, swapR l, 0) := by unfold swapP; rw [if_neg (by rw [hcc]; simp)]
  rw [e] at this
  simp only [hnv] at this
  exact this
 ·
  intro W B d h
  have := swap_any t.swap htv _ rfl (swapR l) B n d hnv W h (fun _ => by omega)
  have e : swapP t.swap (swapR l) = (t, l, 0) := by unfold swapP; rw [if_neg (by rw [hcv]; simp), swap_swap (cc_sorted hcc)]; rfl
  rw [e] at this
  simp only [hn] at this
  exact this
 ·
  intro W B d h
  have := checkChanges_pre _ htu _ rfl (restR l cut) B _ d rfl W h
  rw [hcu] at this; exact this
 ·
  intro W B d h
  have := checkChanges_pre _ htv _ rfl (swapR l) B n d hnv W h
  rw [hcv] at this; exact this
 ·
  intro W B d h
  exact (changes_any l B n d hn (by omega) W h).mono fun x w' ⟨⟨v, e, hv⟩, hb⟩ => by
   obtain ⟨hx, A', c', rfl, hr⟩ := hv
   exact ⟨⟨A', c', e, RdC.of_slk ⟨hx, A', c', rfl, hr⟩⟩, hb⟩
 ·
  intro W A' c' hW h
  exact (sameChanges_any l l A' A n n c' c W hn hn (by omega) h (hlW W hW)).mono fun x w' ⟨e, q, e2⟩ => ⟨by rw [e]; simp, by rw [e2]; exact bt_drewN (Below.refl _ _) q⟩
 ·
  intro k W B d hk h
  have := At_any t ht _ rfl l B n d hn ((cut : Int) + k) W h
  rw [hatR t l _ hcc (by omega) (by omega)] at this; exact this
 ·
  intro k W B d hk h
  have := At_any _ htu _ rfl (restR l cut) B _ d rfl (k : Int) W h
  rw [hatR _ _ _ hcu (by omega) (by omega), split_at hcc (cut : Int) (k : Int) (by omega)] at this; exact this
 ·
  intro k W B d hk h
  have := At_any _ htv _ rfl (swapR l) B n d hnv ((cut : Int) + k) W h
  rw [hatR _ _ _ hcv (by omega) (by omega), hsw] at this; exact this
 ·
  intro k W B d hk h
  have := who_any t ht _ rfl l B n d hn ((cut : Int) + k) 0 1 W h
  rw [hwhoR t l _ 0 hcc (by omega) (by omega) (.inl rfl)] at this; exact this
 ·
  intro k W B d hk h
  have := who_any _ htv _ rfl (swapR l) B n d hnv ((cut : Int) + k) 1 1 W h
  rw [hwhoR _ _ _ 1 hcv (by omega) (by omega) (.inr rfl), hsw] at this; exact this
 ·
  intro k
  exact ⟨(teamAt t l cut k).l0.cells, (teamAt t l cut k).l1.cells, rfl, rfl, LU.cells_len _ (hta k).1, LU.cells_len _ (hta k).2⟩
 ·
  intro W; rw [op_neq54 W _ _ ht ht]; simp
 ·
  intro k W; rw [op_neq54 W _ _ (hta k) (hta k)]; simp
 ·
  intro k a b e ha W
  have e2 : (teamAt t l cut k).l0.cells ++ (teamAt t l cut k).l1.cells = a ++ b := e
  obtain ⟨rfl, rfl⟩ := List.append_inj e2 (by rw [LU.cells_len _ (hta k).1, ha])
  constructor
  ·
   rw [op_neq33 W _ _ (hta k).1 (hta k).1]; simp
  ·
   rw [op_neq33 W _ _ (hta k).2 (hta k).2]; simp
end Go.Proofs.YtmagppkclnebjaaGreatDoor
