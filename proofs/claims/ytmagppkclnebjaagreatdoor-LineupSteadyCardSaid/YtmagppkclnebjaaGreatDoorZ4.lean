/- dugoutlaw03.valid; the facts of LineupPrints. -/
import Derived.Test.YtmagppkclnebjaaGreatDoorZ3
import Derived.Test.YtmagppkclnebjaaGreatDoorH4
import Derived.Test.YtmagppkclnebjaaGreatDoorQd
import Derived.Test.YtmagppkclnebjaaGreatDoorD7
import Derived.Test.YtmagppkclnebjaaGreatDoorB9
set_option linter.unusedVariables false
set_option linter.unusedSimpArgs false
set_option linter.unusedSimpArgs false
set_option linter.unusedVariables false
namespace Go.Proofs.YtmagppkclnebjaaGreatDoor
open Go.RowKit
open L

/-- a valid game, as the laws ask for it -/
def L.validL (t : Tms) (l : List Chg) : Bool := shortL t l && decide (l.length ≤ 8) && decide (checkChanges t l = 0)
theorem valid_parts {t : Tms} {l : List Chg} (h : validL t l = true) : shortL t l = true ∧ l.length ≤ 8 ∧ checkChanges t l = 0 := by
 unfold validL at h
 simp only [Bool.and_eq_true, decide_eq_true_eq] at h
 exact ⟨h.1.1, h.1.2, h.2⟩
set_option maxHeartbeats 2000000 in
set_option maxRecDepth 100000 in
theorem valid_any (t : Tms) (ht : t.ok) (G : Array Value) (l : List Chg) (A : Option Addr) (n c : Nat) (hG : G = (t.cells ++ [Value.slice A n c]).toArray) (hn : l.length = n) (hsz : ∀ s ∈ t.l0.b ++ t.l1.b, s.size ≤ 9223372036854775807) (hszl : ∀ d ∈ l, d.name.size ≤ 9223372036854775807) (w : World) (hl : RdC w A l) :
 Calls Tryz.prog 34 #[.agg G] w fun x w' => x = .returned (.bool (validL t l)) ∧ Below w.heap.size w w' := by
 obtain ⟨P, Gp, hP⟩ := gp_of1 t ht A n c G hG w
 have H21 : Hid (∀ W, P W → Calls Tryz.prog 21 #[.agg (t.cells ++ [Value.slice A n c]).toArray] W fun x w' => x = .returned (.bool (shortL t l)) ∧ Below W.heap.size W w') := fun W h => short_any t ht _ l A n c rfl hn W (hl.below (Gp.below _ h))
 have H26 : Hid (n ≤ 8 → ∀ W, P W → Calls Tryz.prog 26 #[.agg t.cells.toArray, .slice A n c] W fun x w' => x = .returned (.int .i64 (checkChanges t l)) ∧ Below W.heap.size W w') := fun h8 W h => refCheck_any t ht _ rfl l A n c hn (by omega) hsz hszl W (hl.below (Gp.below _ h))
 have Gt := tc_of t ht
 have Hv : Hid (validL t l = (shortL t l && decide (n ≤ 8) && decide (checkChanges t l = 0))) := by show _ = _; rw [← hn]; rfl
 clear hn hsz hszl hl hG ht
 generalize validL t l = v at Hv ⊢
 generalize shortL t l = sh at H21 Hv
 generalize checkChanges t l = cc at H26 Hv
 generalize t.cells = tc at *
 go_enter Tryz.func34, Tryz.ntmps34
 go_upto_region 1 with fail
 generalize (w.alloc (.cells G 49)) = W0 at hP ⊢
 have hgr := Gp.rg
 have hi49 := Gp.i49
 generalize (tc ++ [Value.slice A n c]) = gc at hgr hi49 H21
 cases sh
 ·
  have hv : Hid (v = false) := by show _ = _; rw [Hv.out]; simp
  clear Hv H26
  go_wp2_with (first
   | (refine wpList_load_cells_g 49 _ rfl w.heap.size 0 rfl gc (fun j hj => by rw [List.getElem?_eq_getElem hj]; exact hgr _ hP j _ (List.getElem?_eq_getElem hj)) _ Tryz.underlying49 rfl hi49 rfl ?_)
   | (go_at_call 21; refine (H21.out _ hP).mono ?_; rintro e w2 ⟨rfl, hb2⟩))
  go_ret
  exact ⟨ret_bool (by rw [hv.out]), Gp.below _ (Gp.kp _ _ hP hb2)⟩
 ·
  by_cases h8 : n ≤ 8
  ·
   have a8 : (n : Int) ≤ 8 := by omega
   have b8 : decide ((n : Int) ≤ 8) = true := decide_eq_true a8
   have h26 := H26.out h8
   have hv : Hid (v = (cc == 0)) := by show _ = _; rw [Hv.out, decide_eq_true h8]; simp; rfl
   clear Hv H26 h8
   go_wp2_with (first
    | (refine wpList_load_cells_g 49 _ rfl w.heap.size 0 rfl gc (fun j hj => by rw [List.getElem?_eq_getElem hj]; exact hgr _ hP j _ (List.getElem?_eq_getElem hj)) _ Tryz.underlying49 rfl hi49 rfl ?_)
    | (go_at_call 21; refine (H21.out _ hP).mono ?_; rintro e w2 ⟨rfl, hb2⟩; have hP2 := Gp.kp _ _ hP hb2; have c36 := Gp.c36 _ hP2; have hR := Gp.r _ hP2)
    | (refine wpList_load_cells_g 46 _ rfl w.heap.size 0 rfl tc (fun j hj => by rw [List.getElem?_eq_getElem hj]; exact hR j _ (List.getElem?_eq_getElem hj)) _ Tryz.underlying46 rfl Gt.l46 rfl ?_)
    | (go_at_call 26; refine (h26 _ hP2).mono ?_; rintro e w3 ⟨rfl, hb3⟩))
   go_ret
   exact ⟨ret_bool (by rw [hv.out]), Gp.below _ (Gp.kp _ _ hP2 hb3)⟩
  ·
   have a8 : ¬ (n : Int) ≤ 8 := by omega
   have b8 : decide ((n : Int) ≤ 8) = false := decide_eq_false a8
   have hv : Hid (v = false) := by show _ = _; rw [Hv.out, decide_eq_false h8]; simp
   clear Hv H26 h8
   go_wp2_with (first
    | (refine wpList_load_cells_g 49 _ rfl w.heap.size 0 rfl gc (fun j hj => by rw [List.getElem?_eq_getElem hj]; exact hgr _ hP j _ (List.getElem?_eq_getElem hj)) _ Tryz.underlying49 rfl hi49 rfl ?_)
    | (go_at_call 21; refine (H21.out _ hP).mono ?_; rintro e w2 ⟨rfl, hb2⟩; have hP2 := Gp.kp _ _ hP hb2; have c36 := Gp.c36 _ hP2))
   go_ret
   exact ⟨ret_bool (by rw [hv.out]), Gp.below _ (Gp.kp _ _ hP hb2)⟩

def kindV : Option Value → Nat
 | some (.int _ _) => 1
 | some (.string _) => 2
 | _ => 0
/-- the zero cells of teams -/
abbrev z36 : Array Value := #[.string { data := #[] }, .string { data := #[] }, .string { data := #[] }, .string { data := #[] }, .string { data := #[] }, .string { data := #[] }, .string { data := #[] }, .string { data := #[] }, .string { data := #[] }, .int .i64 0, .int .i64 0, .int .i64 0, .int .i64 0, .int .i64 0, .int .i64 0, .int .i64 0, .int .i64 0, .int .i64 0, .string { data := #[] }, .string { data := #[] }, .string { data := #[] }, .string { data := #[] }, .string { data := #[] }, .string { data := #[] }, .string { data := #[] }, .string { data := #[] }, .string { data := #[] }, .int .i64 0, .int .i64 0, .int .i64 0, .int .i64 0, .int .i64 0, .int .i64 0, .int .i64 0, .int .i64 0, .int .i64 0]
theorem zero_ne {X : World} {g b off : Nat} {ty : TypeId} {d : Chg} (h : Bk X g ty z36) (hc : ∀ j, j < 5 → X.cell? ⟨b, off + j, none⟩ = d.val[j]?) : b ≠ g := by
 rintro rfl
 have k0 := congrArg kindV (hc 0 (by omega)); have k1 := congrArg kindV (hc 1 (by omega)); have k2 := congrArg kindV (hc 2 (by omega)); have k3 := congrArg kindV (hc 3 (by omega)); have k4 := congrArg kindV (hc 4 (by omega))
 rw [h.cell] at k0 k1 k2 k3 k4
 by_cases ho : off < 36
 ·
  have key : ∀ o : Nat, o < 36 → ¬ (kindV (z36[o]? : Option Value) = 1 ∧ kindV (z36[o + 1]? : Option Value) = 1 ∧ kindV (z36[o + 2]? : Option Value) = 1 ∧ kindV (z36[o + 3]? : Option Value) = 2 ∧ kindV (z36[o + 4]? : Option Value) = 1) := by decide
  exact key off ho ⟨k0, k1, k2, k3, k4⟩
 ·
  rw [Array.getElem?_eq_none (by show 36 ≤ off + 0; omega)] at k0
  exact absurd k0 (by show ¬ 0 = 1; decide)
theorem rdc_z {X : World} {g : Nat} {ty : TypeId} {B : Option Addr} {l : List Chg} (h : RdC X B l) (hb : Bk X g ty z36) (vs : List Value) : RdC (X.setCells g 0 vs) B l := fun k hk => by
 obtain ⟨b, off, rfl, hc⟩ := h k hk
 have hne : b ≠ g := zero_ne (d := l.getD k noChg) hb hc
 exact ⟨b, off, rfl, fun j hj => (cell_far (p := ⟨b, off + k * 5 + j, none⟩) hne vs 0 X).trans (hc j hj)⟩

/-- a new block of teams, filled -/
theorem new_teams (w : World) (tc : List Value) (h : tc.toArray.size = 36) : Bk ((w.alloc (.cells z36 54)).setCells w.heap.size 0 tc) w.heap.size 54 tc.toArray :=
 (Bk.new w 54 z36).fill tc.toArray (by rw [h]; rfl)
theorem new_rdc (w : World) (tc : List Value) {B : Option Addr} {l : List Chg} (hr : RdC w B l) : RdC ((w.alloc (.cells z36 54)).setCells w.heap.size 0 tc) B l :=
 rdc_z (hr.below (bt_new w _)) (Bk.new w 54 z36) tc

/-- what the callees of LineupPrints do, in the worlds of its walk -/
structure PrtW (P : World → Prop) (tc : List Value) (A : Option Addr) (n c : Nat) (l : List Chg) (x s : Str) (tq : List Value) (lp : List Chg) (mp : Nat) (pa pe : Int) : Prop where
 h13 : ∀ W, P W → Calls Tryz.prog 13 #[] W fun x w' => x = .returned (.bool true) ∧ Below W.heap.size W w'
 h34 : ∀ W, P W → Calls Tryz.prog 34 #[.agg (tc ++ [Value.slice A n c]).toArray] W fun x w' => x = .returned (.bool true) ∧ Below W.heap.size W w'
 h23 : ∀ W, Calls Tryz.prog 23 #[.agg tc.toArray] W fun x w' => x = .returned (.agg tc.toArray) ∧ Below W.heap.size W w'
 h24 : ∀ W, P W → Calls Tryz.prog 24 #[.slice A n c] W fun x w' => (∃ B d, x = .returned (.slice B n d) ∧ RdC w' B l ∧ ∀ a, B = some a → W.heap.size ≤ a.block ∧ a.block < w'.heap.size) ∧ Below W.heap.size W w'
 h22 : ∀ W B d, P W → RdC W B l → Calls Tryz.prog 22 #[.agg tc.toArray, .slice B n d] W fun e w' => e = .returned (.tuple #[.string x, .int .i64 0]) ∧ Below W.heap.size W w'
 h25 : ∀ W, P W → Calls Tryz.prog 25 #[.string x] W fun e w' => (∃ B d, e = .returned (.tuple #[.agg tc.toArray, .slice B n d, .int .i64 0, .int .i64 0]) ∧ RdC w' B l) ∧ Below W.heap.size W w'
 h25s : ∀ W, P W → Calls Tryz.prog 25 #[.string s] W fun e w' => (∃ B d, e = .returned (.tuple #[.agg tq.toArray, .slice B mp d, .int .i64 pa, .int .i64 pe]) ∧ RdC w' B lp) ∧ Below W.heap.size W w'
 h22s : pe = 0 → ∀ W B d, P W → RdC W B lp → Calls Tryz.prog 22 #[.agg tq.toArray, .slice B mp d] W fun e w' => e = .returned (.tuple #[.string s, .int .i64 0]) ∧ Below W.heap.size W w'
 h25x : ∀ W, P W → Calls Tryz.prog 25 #[.string (x.extract 0 (x.size - 1))] W fun e w' => (∃ B d, e = .returned (.tuple #[.agg Tms.zero.cells.toArray, .slice B 0 d, .int .i64 (17 + (n : Int)), .int .i64 25])) ∧ Below W.heap.size W w'
 hA : ∀ W, P W → RdC W A l
 hx : 18 ≤ x.size ∧ x.size ≤ 2626
 gq : TC tq
 hl : l.length = n ∧ n ≤ 8

theorem prt_facts (P : World → Prop) (w : World) (t : Tms) (ht : t.ok) (l : List Chg) (A : Option Addr) (n c : Nat) (hn : l.length = n) (s : Str) (hs : s.size ≤ 1500) (hsz : ∀ s ∈ t.l0.b ++ t.l1.b, s.size ≤ 9223372036854775807) (hszl : ∀ d ∈ l, d.name.size ≤ 9223372036854775807) (hl : RdC w A l) (hE : Env w)
 (haw : ∀ W, Below w.heap.size w W → Calls Tryz.prog 13 #[] W fun x w' => x = .returned (.bool true) ∧ Below W.heap.size W w') (Gp : GP w t.cells A n c 1 P) (hv : validL t l = true) :
 PrtW P t.cells A n c l (printR t l) s (parseR s).t.cells (parseR s).l (parseR s).l.length (parseR s).at_ (parseR s).e := by
 have hlW : ∀ W, P W → RdC W A l := fun W h => hl.below (Gp.below _ h)
 have hEW : ∀ W, P W → Env W := fun W h => env_below hE (Gp.below _ h)
 obtain ⟨hsh, h8, hcc⟩ := valid_parts hv
 have Pc := prtC_of ht hcc h8
 have h8' : n ≤ 8 := by omega
 have hpt : (parseR s).t.ok := by
  unfold parseR
  split
  ·
   exact Tms.zero_ok
  ·
   unfold parseLs
   split
   ·
    exact Tms.zero_ok
   ·
    split
    ·
     exact Tms.zero_ok
    ·
     split
     ·
      exact Tms.zero_ok
     ·
      exact pT_ok _ _ _ Tms.zero_ok
 refine { h13 := fun W h => haw W (Gp.below _ h), h34 := ?_, h23 := fun W => given_any t ht _ rfl W, h24 := fun W h => list_any l A n c hn (by omega) W (hlW W h), h22 := ?_, h25 := ?_, h25s := ?_, h22s := ?_, h25x := ?_, hA := hlW, hx := Pc.size, gq := tc_of _ hpt, hl := ⟨hn, h8'⟩ }
 ·
  intro W h
  have := valid_any t ht _ l A n c rfl hn hsz hszl W (hlW W h)
  rw [hv] at this; exact this
 ·
  intro W B d hW h
  have := print_any t ht _ rfl l B n d hn W h (itoaOk_env W (hEW W hW) l (fun d hd => (checkC_zero ((cc_parts hcc).2.2.1 d hd)).2.1.2))
  rw [hcc] at this; exact this
 ·
  intro W hW
  refine (parse_any (printR t l) W (hEW W hW) (by have := Pc.size; omega)).mono fun y w' ⟨⟨v, e, hv⟩, hb⟩ => ?_
  rw [Pc.back] at e hv
  simp only at e hv
  obtain ⟨hx, B, d, rfl, hr⟩ := hv
  rw [hn] at e
  exact ⟨⟨B, d, e, RdC.of_slk ⟨hx, B, d, rfl, hr⟩⟩, hb⟩
 ·
  intro W hW
  refine (parse_any s W (hEW W hW) (by omega)).mono fun y w' ⟨⟨v, e, hv⟩, hb⟩ => ?_
  obtain ⟨hx, B, d, rfl, hr⟩ := hv
  exact ⟨⟨B, d, e, RdC.of_slk ⟨hx, B, d, rfl, hr⟩⟩, hb⟩
 ·
  intro h0 W B d hW h
  obtain ⟨_, g2, g3⟩ := print_again s h0
  have := print_any (parseR s).t hpt _ rfl (parseR s).l B _ d rfl W h (itoaOk_env W (hEW W hW) _ (fun d hd => (checkC_zero ((cc_parts g2).2.2.1 d hd)).2.1.2))
  rw [g2, g3] at this; exact this
 ·
  intro W hW
  refine (parse_any _ W (hEW W hW) (by rw [ByteArray.size_extract]; have := Pc.size; omega)).mono fun y w' ⟨⟨v, e, hv⟩, hb⟩ => ?_
  rw [Pc.torn] at e hv
  simp only at e hv
  obtain ⟨hx, B, d, rfl, hr⟩ := hv
  refine ⟨⟨B, d, ?_⟩, hb⟩
  rw [e, hn]
  congr 5
end Go.Proofs.YtmagppkclnebjaaGreatDoor
