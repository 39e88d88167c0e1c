/- dugoutlaw03.LineupTexts: the facts of its walk. -/
import Derived.Test.YtmagppkclnebjaaGreatDoorO5
import Derived.Test.YtmagppkclnebjaaGreatDoorH1
import Derived.Test.YtmagppkclnebjaaGreatDoorD7
set_option linter.unusedVariables false
set_option linter.unusedSimpArgs false
set_option linter.unusedVariables false
namespace Go.Proofs.YtmagppkclnebjaaGreatDoor
open Go.RowKit
open L

structure TxtW (P : World → Prop) (tc : List Value) (A : Option Addr) (n c : Nat) (l : List Chg) (x s : Str) (cc : Int) (tq : List Value) (lp : List Chg) (mp : Nat) (pa pe : Int) : Prop where
 h13 : ∀ W, P W → Calls Tryz.prog 13 #[] W fun x w' => x = .returned (.bool true) ∧ Below W.heap.size W w'
 h21 : ∀ W, P W → Calls Tryz.prog 21 #[.agg (tc ++ [Value.slice A n c]).toArray] W fun x w' => x = .returned (.bool true) ∧ Below W.heap.size W w'
 h23 : ∀ W, Calls Tryz.prog 23 #[.agg tc.toArray] W fun x w' => x = .returned (.agg tc.toArray) ∧ Below W.heap.size W w'
 h24 : ∀ W, P W → Calls Tryz.prog 24 #[.slice A n c] W fun x w' => (∃ B d, x = .returned (.slice B n d) ∧ RdC w' B l ∧ ∀ a, B = some a → W.heap.size ≤ a.block ∧ a.block < w'.heap.size) ∧ Below W.heap.size W w'
 h22 : ∀ W B d, P W → RdC W B l → Calls Tryz.prog 22 #[.agg tc.toArray, .slice B n d] W fun e w' => e = .returned (.tuple #[.string x, .int .i64 cc]) ∧ Below W.heap.size W w'
 h25 : ∀ W, P W → Calls Tryz.prog 25 #[.string s] W fun e w' => (∃ B d, e = .returned (.tuple #[.agg tq.toArray, .slice B mp d, .int .i64 pa, .int .i64 pe]) ∧ RdC w' B lp) ∧ Below W.heap.size W w'
 h26 : ∀ W, P W → Calls Tryz.prog 26 #[.agg tc.toArray, .slice A n c] W fun e w' => e = .returned (.int .i64 cc) ∧ Below W.heap.size W w'
 h27 : cc = 0 → ∀ W, P W → Calls Tryz.prog 27 #[.agg tc.toArray, .slice A n c] W fun e w' => e = .returned (.string x) ∧ Below W.heap.size W w'
 h28 : ∀ W, P W → Calls Tryz.prog 28 #[.string s] W fun e w' => (∃ B d, e = .returned (.tuple #[.agg tq.toArray, .slice B mp d, .int .i64 pa, .int .i64 pe]) ∧ RdC w' B lp) ∧ Below W.heap.size W w'
 hA : ∀ W, P W → RdC W A l
 hx : cc ≠ 0 → x = .empty
 gq : TC tq

theorem txt_facts (P : World → Prop) (w : World) (t : Tms) (ht : t.ok) (l : List Chg) (A : Option Addr) (n c : Nat) (hn : l.length = n) (s : Str) (hs : s.size ≤ 4098) (hsz : ∀ s ∈ t.l0.b ++ t.l1.b, s.size ≤ 9223372036854775807) (hszl : ∀ d ∈ l, d.name.size ≤ 9223372036854775807) (hl : RdC w A l) (hE : Env w)
 (haw : ∀ W, Below w.heap.size w W → Calls Tryz.prog 13 #[] W fun x w' => x = .returned (.bool true) ∧ Below W.heap.size W w') (Gp : GP w t.cells A n c 1 P) (hv : shortL t l = true) (hn8 : n ≤ 9223372036854775807) :
 TxtW P t.cells A n c l (printR t l) s (checkChanges t l) (parseR s).t.cells (parseR s).l (parseR s).l.length (parseR s).at_ (parseR s).e := by
 have hn16 : n ≤ 100000 := by
  have := (short_parts hv).1
  rw [hn] at this
  simp [shortN] at this
  omega
 have hlW : ∀ W, P W → RdC W A l := fun W h => hl.below (Gp.below _ h)
 have hEW : ∀ W, P W → Env W := fun W h => env_below hE (Gp.below _ h)
 have hpt : (parseR s).t.ok := by
  unfold parseR
  split
  ·
   exact Tms.zero_ok
  ·
   unfold parseLs
   split
   ·
    exact Tms.zero_ok
   ·
    split
    ·
     exact Tms.zero_ok
    ·
     split
     ·
      exact Tms.zero_ok
     ·
      exact pT_ok _ _ _ Tms.zero_ok
 refine { h13 := fun W h => haw W (Gp.below _ h), h21 := ?_, h23 := fun W => given_any t ht _ rfl W, h24 := fun W h => list_any l A n c hn (by clear hs; omega) W (hlW W h), h22 := ?_, h25 := ?_, h26 := fun W h => refCheck_any t ht _ rfl l A n c hn hn8 hsz hszl W (hlW W h), h27 := fun h0 W h => refPrint_any t ht _ rfl l A n c hn h0 W (hlW W h), h28 := ?_, hA := hlW, hx := fun h => by unfold printR; rw [if_pos h], gq := tc_of _ hpt }
 ·
  intro W h
  have := short_any t ht _ l A n c rfl hn W (hlW W h)
  rw [hv] at this; exact this
 ·
  intro W B d hW h
  exact print_gen t ht _ rfl l B n d hn W h (fun hcc => itoaOk_env W (hEW W hW) l (fun d hd => (checkC_zero ((cc_parts hcc).2.2.1 d hd)).2.1.2))
 ·
  intro W hW
  refine (parse_any s W (hEW W hW) (by omega)).mono fun y w' ⟨⟨v, e, hv⟩, hb⟩ => ?_
  obtain ⟨hx, B, d, rfl, hr⟩ := hv
  exact ⟨⟨B, d, e, RdC.of_slk ⟨hx, B, d, rfl, hr⟩⟩, hb⟩
 ·
  intro W hW
  refine (refParse_any s (by omega) W).mono fun y w' ⟨⟨v, e, hv⟩, hb⟩ => ?_
  obtain ⟨hx, B, d, rfl, hr⟩ := hv
  exact ⟨⟨B, d, e, RdC.of_slk ⟨hx, B, d, rfl, hr⟩⟩, hb⟩
end Go.Proofs.YtmagppkclnebjaaGreatDoor
