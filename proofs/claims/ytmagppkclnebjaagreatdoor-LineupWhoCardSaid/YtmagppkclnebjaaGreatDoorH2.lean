/- dugoutlaw03.LineupWho: if awake is true, it returns true at every game and triple. -/
import Derived.Test.YtmagppkclnebjaaGreatDoorH4
import Derived.Test.YtmagppkclnebjaaGreatDoorD7
import Derived.Test.YtmagppkclnebjaaGreatDoorB3
import Derived.Deep.Cut
import Derived.Deep.CutRange
import Derived.BigQuiet
set_option linter.unusedVariables false
set_option linter.unusedSimpArgs false
set_option linter.unusedSimpArgs false
set_option linter.unusedVariables false
namespace Go.Proofs.YtmagppkclnebjaaGreatDoor
open Go.RowKit
open L

/-- what the callees of LineupWho do, in the worlds of its walk -/
structure WhoC (P : World → Prop) (g : Nat) (tc ta : List Value) (A : Option Addr) (n c : Nat) (x0 x1 x2 : Int) (l : List Chg) (cc one two : Int) (who : Str) (N0 N1 : List Str) (m0 m1 : Nat) : Prop where
 hx : ∀ X, P X → X.cell? ⟨g, 0, none⟩ = some (.int .i64 x0) ∧ X.cell? ⟨g, 1, none⟩ = some (.int .i64 x1) ∧ X.cell? ⟨g, 2, none⟩ = some (.int .i64 x2)
 h13 : ∀ W, P W → Calls Tryz.prog 13 #[] W fun x w' => x = .returned (.bool true) ∧ Below W.heap.size W w'
 h21 : ∀ W, P W → Calls Tryz.prog 21 #[.agg (tc ++ [Value.slice A n c]).toArray] W fun x w' => x = .returned (.bool true) ∧ Below W.heap.size W w'
 h23 : ∀ W, Calls Tryz.prog 23 #[.agg tc.toArray] W fun x w' => x = .returned (.agg tc.toArray) ∧ Below W.heap.size W w'
 h24 : ∀ W, P W → Calls Tryz.prog 24 #[.slice A n c] W fun x w' => (∃ B d, x = .returned (.slice B n d) ∧ RdC w' B l ∧ ∀ a, B = some a → W.heap.size ≤ a.block ∧ a.block < w'.heap.size) ∧ Below W.heap.size W w'
 h35 : ∀ W B d, RdC W B l → Calls Tryz.prog 35 #[.agg tc.toArray, .slice B n d, .int .i64 x0] W fun x w' => x = .returned (.tuple #[.agg ta.toArray, .int .i64 one]) ∧ Below W.heap.size W w'
 h36 : ∀ W B d, RdC W B l → Calls Tryz.prog 36 #[.agg tc.toArray, .slice B n d] W fun x w' => (∃ B0 c0 B1 c1, x = .returned (.tuple #[.agg #[.slice B0 m0 c0, .slice B1 m1 c1], .int .i64 cc]) ∧ Rd w' B0 (N0.map .string) ∧ Rd w' B1 (N1.map .string)) ∧ Below W.heap.size W w'
 h37 : ∀ W B d, RdC W B l → Calls Tryz.prog 37 #[.agg tc.toArray, .slice B n d, .int .i64 x0, .int .i64 x1, .int .i64 x2] W fun x w' => x = .returned (.tuple #[.string who, .int .i64 two]) ∧ Below W.heap.size W w'
 h26 : ∀ W, P W → Calls Tryz.prog 26 #[.agg tc.toArray, .slice A n c] W fun x w' => x = .returned (.int .i64 cc) ∧ Below W.heap.size W w'
 h40 : one = 0 → ∀ W, P W → Calls Tryz.prog 40 #[.agg tc.toArray, .slice A n c, .int .i64 x0] W fun x w' => x = .returned (.agg ta.toArray) ∧ Below W.heap.size W w'
 hz : one ≠ 0 → ta.toArray = #[.string { data := #[] }, .string { data := #[] }, .string { data := #[] }, .string { data := #[] }, .string { data := #[] }, .string { data := #[] }, .string { data := #[] }, .string { data := #[] }, .string { data := #[] }, .int .i64 0, .int .i64 0, .int .i64 0, .int .i64 0, .int .i64 0, .int .i64 0, .int .i64 0, .int .i64 0, .int .i64 0, .string { data := #[] }, .string { data := #[] }, .string { data := #[] }, .string { data := #[] }, .string { data := #[] }, .string { data := #[] }, .string { data := #[] }, .string { data := #[] }, .string { data := #[] }, .int .i64 0, .int .i64 0, .int .i64 0, .int .i64 0, .int .i64 0, .int .i64 0, .int .i64 0, .int .i64 0, .int .i64 0]
 h41 : two = 0 → ∀ W, P W → Calls Tryz.prog 41 #[.agg tc.toArray, .slice A n c, .int .i64 x0, .int .i64 x1, .int .i64 x2] W fun x w' => x = .returned (.string who) ∧ Below W.heap.size W w'
 hw : two ≠ 0 → who = .empty
 h430 : cc = 0 → ∀ W, P W → Calls Tryz.prog 43 #[.agg tc.toArray, .slice A n c, .int .i64 0] W fun x w' => (∃ B d, x = .returned (.slice B m0 d) ∧ Rd w' B (N0.map .string)) ∧ Below W.heap.size W w'
 h431 : cc = 0 → ∀ W, P W → Calls Tryz.prog 43 #[.agg tc.toArray, .slice A n c, .int .i64 1] W fun x w' => (∃ B d, x = .returned (.slice B m1 d) ∧ Rd w' B (N1.map .string)) ∧ Below W.heap.size W w'
 hn0 : cc ≠ 0 → m0 = 0 ∧ m1 = 0
 hnl : N0.length = m0 ∧ N1.length = m1 ∧ m0 ≤ 100000 ∧ m1 ≤ 100000
 h29 : ∀ W, Calls Tryz.prog 29 #[.agg ta.toArray] W fun x w' => x = .returned (.agg ta.toArray) ∧ Below W.heap.size W w'
 hne : ∀ W, (binOp .neq 46 (.agg ta.toArray) (.agg ta.toArray)).run Tryz.prog W = .ok (.bool false) W
 hone : firstE [cc, withinE x0 0 256] = one
 htwo : firstE [sideE one x1, withinE x2 1 9] = two
theorem who_facts (P : World → Prop) (w : World) (t : Tms) (ht : t.ok) (l : List Chg) (A : Option Addr) (n c : Nat) (hn : l.length = n) (x0 x1 x2 : Int) (hle : n ≤ 66) (hsz : ∀ s ∈ t.l0.b ++ t.l1.b, s.size ≤ 9223372036854775807) (hszl : ∀ d ∈ l, d.name.size ≤ 9223372036854775807) (hl : RdC w A l)
 (haw : ∀ W, Below w.heap.size w W → Calls Tryz.prog 13 #[] W fun x w' => x = .returned (.bool true) ∧ Below W.heap.size W w') (Gp : GP w t.cells A n c 2 P) (hbx : ∀ X, P X → Bk X (w.heap.size + 1) 72 #[.int .i64 x0, .int .i64 x1, .int .i64 x2]) (hsh : shortL t l = true) :
 WhoC P (w.heap.size + 1) t.cells (atR t l x0).1.cells A n c x0 x1 x2 l (checkChanges t l) (firstE [checkChanges t l, withinE x0 0 256]) (firstE [sideE (firstE [checkChanges t l, withinE x0 0 256]) x1, withinE x2 1 9]) (whoR t l x0 x1 x2).1 (namesR t l 0) (namesR t l 1) (namesR t l 0).length (namesR t l 1).length := by
 have hlW : ∀ W, P W → RdC W A l := fun W h => hl.below (Gp.below _ h)
 refine { hx := ?_, h13 := fun W h => haw W (Gp.below _ h), h21 := ?_, h23 := fun W => given_any t ht _ rfl W, h24 := fun W h => list_any l A n c hn (by omega) W (hlW W h), h35 := ?_, h36 := ?_, h37 := ?_, h26 := fun W h => refCheck_any t ht _ rfl l A n c hn (by omega) hsz hszl W (hlW W h), h40 := ?_, hz := fun h0 => by rw [atR_bad h0]; rfl, h41 := ?_, hw := fun h0 => whoR_bad h0, h430 := ?_, h431 := ?_, hn0 := ?_, hnl := ?_, h29 := fun W => own_any _ (atR_ok t ht l x0) _ rfl W, hne := ?_, hone := rfl, htwo := rfl }
 ·
  intro X h
  have hb := hbx X h
  refine ⟨?_, ?_, ?_⟩ <;> rw [hb.cell] <;> rfl
 ·
  intro W h
  have := short_any t ht _ l A n c rfl hn W (hlW W h)
  rw [hsh] at this; exact this
 ·
  intro W B d h
  have := At_any t ht _ rfl l B n d hn x0 W h
  rw [atR_two] at this; exact this
 ·
  intro W B d h
  refine (names_any t ht _ rfl l B n d hn W h).mono fun x w' ⟨⟨v0, v1, e, h0, h1⟩, hb⟩ => ?_
  obtain ⟨_, B0, c0, rfl, hr0⟩ := h0
  obtain ⟨_, B1, c1, rfl, hr1⟩ := h1
  exact ⟨⟨B0, c0, B1, c1, e, hr0, hr1⟩, hb⟩
 ·
  intro W B d h
  have := who_any t ht _ rfl l B n d hn x0 x1 x2 W h
  rw [whoR_two] at this; exact this
 ·
  intro h0 W h
  rw [atR_one h0]
  exact refAt_any t ht _ rfl l A n c hn (by omega) (okS_all (firstE2 h0).1) x0 W (hlW W h)
 ·
  intro h0 W h
  obtain ⟨e, hs, h1⟩ := whoR_one ht h0
  rw [e]
  exact refWho_any t ht _ rfl l A n c hn (by omega) (okS_all h1) x0 x1 x2 hs W (hlW W h)
 ·
  intro h0 W h
  have e : namesR t l 0 = namesL t l 0 := by unfold namesR; rw [if_neg (by rw [h0]; simp)]
  rw [e]
  exact refNames_any t ht _ rfl l A n c hn (by omega) 0 (.inl rfl) W (hlW W h)
 ·
  intro h0 W h
  have e : namesR t l 1 = namesL t l 1 := by unfold namesR; rw [if_neg (by rw [h0]; simp)]
  rw [e]
  exact refNames_any t ht _ rfl l A n c hn (by omega) 1 (.inr rfl) W (hlW W h)
 ·
  intro h0
  unfold namesR
  rw [if_pos h0, if_pos h0]; exact ⟨rfl, rfl⟩
 ·
  have := names_len1000 t ht l (by omega)
  exact ⟨rfl, rfl, by omega, by omega⟩
 ·
  intro W
  rw [op_neq46 W _ _ (atR_ok t ht l x0) (atR_ok t ht l x0)]; simp

set_option maxHeartbeats 8000000 in
set_option maxRecDepth 100000 in
theorem who_main (P : World → Prop) (w : World) (tc ta : List Value) (A : Option Addr) (n c : Nat) (x0 x1 x2 : Int) (l : List Chg) (cc one two : Int) (who : Str) (N0 N1 : List Str) (m0 m1 : Nat) (Gp : GP w tc A n c 2 P) (Gt : TC tc) (Ga : TC ta)
 (C : WhoC P (w.heap.size + 1) tc ta A n c x0 x1 x2 l cc one two who N0 N1 m0 m1) (G : Array Value) (hP : P ((w.alloc (.cells G 49)).alloc (.cells #[.int .i64 x0, .int .i64 x1, .int .i64 x2] 72))) :
 Calls Tryz.prog 7 #[.agg G, .agg #[.int .i64 x0, .int .i64 x1, .int .i64 x2]] w fun x w' => x = .returned (.bool true) ∧ Below w.heap.size w w' := by
 go_enter Tryz.func7, Tryz.ntmps7
 go_upto_region 1 with fail
 generalize ((w.alloc (.cells G 49)).alloc (.cells #[.int .i64 x0, .int .i64 x1, .int .i64 x2] 72)) = W0 at hP ⊢
 go_cut [24] from 18 (fun s24 wr => s24 = .bool false ∧ P wr)
 case first =>
  have hgr := Gp.rg
  have hi49 := Gp.i49
  have h21 := C.h21
  generalize (tc ++ [Value.slice A n c]) = gc at hgr hi49 h21
  go_wp2_with (first
   | (go_at_call 13; refine (C.h13 _ hP).mono ?_; rintro e w1 ⟨rfl, hb1⟩; have hP1 := Gp.kp _ _ hP hb1)
   | (refine wpList_load_cells_g 49 _ rfl w.heap.size 0 rfl gc (fun j hj => by rw [List.getElem?_eq_getElem hj]; exact hgr _ hP1 j _ (List.getElem?_eq_getElem hj)) _ Tryz.underlying49 rfl hi49 rfl ?_)
   | (go_at_call 21; refine (h21 _ hP1).mono ?_; rintro e w2 ⟨rfl, hb2⟩; have hP2 := Gp.kp _ _ hP1 hb2))
  go_meet
  exact ⟨by simp, hP2⟩
 case rest =>
  obtain ⟨rfl, hPc⟩ := hcut
  clear hP
  revert hPc
  generalize wc = W0
  intro hP
  go_upto_region 3 with fail
  go_cut [5, 6] from 18 (fun s5 s6 wr => P wr ∧ ∃ g B d, s5 = .pointer (some ⟨g, 0, none⟩) ∧ s6 = .slice B n d ∧ Bk wr g 54 tc.toArray ∧ RdC wr B l)
  case first =>
   as_aux_lemma =>
    have hS0 : W0.drew.cell? ⟨w.heap.size, 36, none⟩ = some (.slice A n c) ∧ P W0.drew := ⟨Gp.c36 _ (Gp.kp _ _ hP (bt_drew (Below.refl _ W0))), Gp.kp _ _ hP (bt_drew (Below.refl _ W0))⟩
    refine wp_region_held_drew (S := (fun X => X.cell? ⟨w.heap.size, 36, none⟩ = some (.slice A n c) ∧ P X)) (by kernel_rfl) (hS0) (fun hHeld => ?_)
    refine' wpAnyH_take (i := 0) (oi := { dst := some 26, op := Op.fieldAddr 49 (Operand.tmp 2) 0, type := 0, pos := "law.go:116", after := #[], guard := none }) (v := _) rfl (by kernel_rfl) (by kernel_rfl) (by kernel_rfl) (fun _ _ _ h => h) (Or.inl ⟨by kernel_rfl, ?hy1⟩) (by assumption) ?rest1
    case hy1 => (intro W hSW; (try dsimp only at hSW); go_simp; with_reducible rfl)
    try simp only [Act.put, List.setIfInBounds_toArray, List.set_cons_zero, List.set_cons_succ]
    refine' wpAnyH_take (i := 1) (oi := { dst := some 27, op := Op.load 46 (Operand.tmp 26), type := 46, pos := "law.go:116", after := #[{ on := 0, ground := Ground.data }], guard := none }) (v := _) rfl (by kernel_rfl) (by kernel_rfl) (by kernel_rfl) (fun _ _ _ h => h) (yieldsIf_load_mid (by kernel_rfl) _ _ rfl _ _ rfl (tc) _ (fun W h => Gp.r W h.2) Tryz.underlying46 rfl (Gt.l46)) (by assumption) ?rest2
    try simp only [Act.put, List.setIfInBounds_toArray, List.set_cons_zero, List.set_cons_succ]
    refine' wpAnyH_take (i := 3) (oi := { dst := some 29, op := Op.fieldAddr 49 (Operand.tmp 2) 1, type := 0, pos := "law.go:116", after := #[], guard := none }) (v := _) rfl (by kernel_rfl) (by kernel_rfl) (by kernel_rfl) (fun _ _ _ h => h) (Or.inl ⟨by kernel_rfl, ?hy3⟩) (by assumption) ?rest3
    case hy3 => (intro W hSW; (try dsimp only at hSW); go_simp; with_reducible rfl)
    try simp only [Act.put, List.setIfInBounds_toArray, List.set_cons_zero, List.set_cons_succ]
    refine' wpAnyH_take (i := 4) (oi := { dst := some 30, op := Op.load 47 (Operand.tmp 29), type := 47, pos := "law.go:116", after := #[{ on := 3, ground := Ground.data }], guard := none }) (v := _) rfl (by kernel_rfl) (by kernel_rfl) (by kernel_rfl) (fun _ _ _ h => h) (Or.inl ⟨by kernel_rfl, ?hy4⟩) (by assumption) ?rest4
    case hy4 => (intro W hSW; (try dsimp only at hSW); go_simp; with_reducible rfl)
    try simp only [Act.put, List.setIfInBounds_toArray, List.set_cons_zero, List.set_cons_succ]
    refine wpAnyH_ready (rs := [2, 6]) (by kernel_rfl) (by simp) ?_
    refine AllReadyH.cons (o := { dst := some 28, op := Op.call { callee := Callee.value (Operand.func 23), args := #[Operand.tmp 27], argTypes := #[46] }, type := 54, pos := "law.go:116", after := #[{ on := 1, ground := Ground.data }], guard := none }) rfl (fun K hK => ?_) (AllReadyH.cons (o := { dst := some 5, op := Op.alloc 54, type := 0, pos := "law.go:116", after := #[], guard := none }) rfl (fun K hK => ?_) AllReadyH.nil)
    ·
     go_simp
     go_at_call 23
     refine (C.h23 _).mono ?_
     rintro e w2 ⟨rfl, hb2⟩
     go_wp2_with fail
     have hP2 := Gp.kp _ _ hHeld.2 hb2
     refine hK.out _ _ ⟨Gp.c36 _ hP2, hP2⟩ (fun hHeld => ?_)
     clear hK K hb2 hS0
     try simp only [Act.put, List.setIfInBounds_toArray, List.set_cons_zero, List.set_cons_succ]
     refine wpAnyH_ready (rs := [5, 6]) (by kernel_rfl) (by simp) ?_
     refine AllReadyH.cons (o := { dst := some 31, op := Op.call { callee := Callee.value (Operand.func 24), args := #[Operand.tmp 30], argTypes := #[47] }, type := 56, pos := "law.go:116", after := #[{ on := 4, ground := Ground.data }, { on := 2, ground := Ground.chain }], guard := none }) rfl (fun K hK => ?_) (AllReadyH.cons (o := { dst := some 5, op := Op.alloc 54, type := 0, pos := "law.go:116", after := #[], guard := none }) rfl (fun K hK => ?_) AllReadyH.nil)
     ·
      go_simp
      go_at_call 24
      refine (C.h24 _ hP2).mono ?_
      rintro e w3 ⟨⟨B, d, rfl, hr3, hge3⟩, hb3⟩
      go_wp2_with fail
      have hP3 := Gp.kp _ _ hP2 hb3
      refine hK.out _ _ ⟨Gp.c36 _ hP3, hP3⟩ (fun hHeld => ?_)
      clear hK K hb3 hP2
      try simp only [Act.put, List.setIfInBounds_toArray, List.set_cons_zero, List.set_cons_succ]
      have hPX := Gp.kp _ _ hP3 (bt_new w3 (.cells #[.string { data := #[] }, .string { data := #[] }, .string { data := #[] }, .string { data := #[] }, .string { data := #[] }, .string { data := #[] }, .string { data := #[] }, .string { data := #[] }, .string { data := #[] }, .int .i64 0, .int .i64 0, .int .i64 0, .int .i64 0, .int .i64 0, .int .i64 0, .int .i64 0, .int .i64 0, .int .i64 0, .string { data := #[] }, .string { data := #[] }, .string { data := #[] }, .string { data := #[] }, .string { data := #[] }, .string { data := #[] }, .string { data := #[] }, .string { data := #[] }, .string { data := #[] }, .int .i64 0, .int .i64 0, .int .i64 0, .int .i64 0, .int .i64 0, .int .i64 0, .int .i64 0, .int .i64 0, .int .i64 0] 54))
      refine wpAnyH_ready (rs := [6]) (by kernel_rfl) (by simp) ?_
      refine AllReadyH.cons (o := { dst := some 5, op := Op.alloc 54, type := 0, pos := "law.go:116", after := #[], guard := none }) rfl (fun K hK => ?_) AllReadyH.nil
      go_simp
      refine hK.out _ _ (⟨Gp.c36 _ hPX, hPX⟩) (fun hHeld => ?_)
      clear hK K
      try simp only [Act.put, List.setIfInBounds_toArray, List.set_cons_zero, List.set_cons_succ]
      have hlo := Gp.lo _ hP3
      have hb := Bk.new w3 54 #[.string { data := #[] }, .string { data := #[] }, .string { data := #[] }, .string { data := #[] }, .string { data := #[] }, .string { data := #[] }, .string { data := #[] }, .string { data := #[] }, .string { data := #[] }, .int .i64 0, .int .i64 0, .int .i64 0, .int .i64 0, .int .i64 0, .int .i64 0, .int .i64 0, .int .i64 0, .int .i64 0, .string { data := #[] }, .string { data := #[] }, .string { data := #[] }, .string { data := #[] }, .string { data := #[] }, .string { data := #[] }, .string { data := #[] }, .string { data := #[] }, .string { data := #[] }, .int .i64 0, .int .i64 0, .int .i64 0, .int .i64 0, .int .i64 0, .int .i64 0, .int .i64 0, .int .i64 0, .int .i64 0]
      have hr := hr3.below (bt_new w3 (.cells #[.string { data := #[] }, .string { data := #[] }, .string { data := #[] }, .string { data := #[] }, .string { data := #[] }, .string { data := #[] }, .string { data := #[] }, .string { data := #[] }, .string { data := #[] }, .int .i64 0, .int .i64 0, .int .i64 0, .int .i64 0, .int .i64 0, .int .i64 0, .int .i64 0, .int .i64 0, .int .i64 0, .string { data := #[] }, .string { data := #[] }, .string { data := #[] }, .string { data := #[] }, .string { data := #[] }, .string { data := #[] }, .string { data := #[] }, .string { data := #[] }, .string { data := #[] }, .int .i64 0, .int .i64 0, .int .i64 0, .int .i64 0, .int .i64 0, .int .i64 0, .int .i64 0, .int .i64 0, .int .i64 0] 54))
      have hne : ∀ a, B = some a → a.block ≠ w3.heap.size := fun a e => by have := (hge3 a e).2; omega
      clear hr3 hge3 hP3 hHeld
      generalize (w3.alloc (.cells #[.string { data := #[] }, .string { data := #[] }, .string { data := #[] }, .string { data := #[] }, .string { data := #[] }, .string { data := #[] }, .string { data := #[] }, .string { data := #[] }, .string { data := #[] }, .int .i64 0, .int .i64 0, .int .i64 0, .int .i64 0, .int .i64 0, .int .i64 0, .int .i64 0, .int .i64 0, .int .i64 0, .string { data := #[] }, .string { data := #[] }, .string { data := #[] }, .string { data := #[] }, .string { data := #[] }, .string { data := #[] }, .string { data := #[] }, .string { data := #[] }, .string { data := #[] }, .int .i64 0, .int .i64 0, .int .i64 0, .int .i64 0, .int .i64 0, .int .i64 0, .int .i64 0, .int .i64 0, .int .i64 0] 54)) = X at hPX hb hr ⊢
      generalize w3.heap.size = g at hb hlo hne ⊢
      refine wpAnyH_ready (rs := [7]) (by kernel_rfl) (by simp) ?_
      refine AllReadyH.cons (o := { dst := none, op := Op.store 54 (Operand.tmp 5) (Operand.tmp 28), type := 0, pos := "law.go:116", after := #[{ on := 6, ground := Ground.data }, { on := 2, ground := Ground.data }, { on := 5, ground := Ground.chain }, { on := 0, ground := Ground.phase }, { on := 1, ground := Ground.phase }, { on := 2, ground := Ground.phase }, { on := 3, ground := Ground.textOnly Departure.lateStores }, { on := 4, ground := Ground.textOnly Departure.lateStores }, { on := 5, ground := Ground.textOnly Departure.lateStoresUnsure }, { on := 6, ground := Ground.phase }], guard := none }) rfl (fun K hK => ?_) AllReadyH.nil
      refine step_store rfl 54 _ _ rfl g 0 tc.toArray rfl rfl (hb.there _ (by rw [Gt.s36]; decide)) Gt.i54 Gt.one ?_
      have hPS := Gp.sets _ g tc hPX hlo
      refine hK.out _ _ ⟨Gp.c36 _ hPS, hPS⟩ (fun hHeld => ?_)
      clear hK K
      try simp only [Act.put, List.setIfInBounds_toArray, List.set_cons_zero, List.set_cons_succ]
      refine wpAnyH_ready (rs := [8]) (by kernel_rfl) (by simp) ?_
      refine AllReadyH.cons (o := { dst := some 6, op := Op.assign (Operand.tmp 31), type := 56, pos := "law.go:116", after := #[{ on := 5, ground := Ground.data }, { on := 7, ground := Ground.chain }, { on := 0, ground := Ground.phase }, { on := 1, ground := Ground.phase }, { on := 2, ground := Ground.phase }, { on := 3, ground := Ground.phase }, { on := 4, ground := Ground.phase }, { on := 5, ground := Ground.phase }, { on := 6, ground := Ground.phase }, { on := 7, ground := Ground.phase }], guard := none }) rfl (fun K hK => ?_) AllReadyH.nil
      go_simp
      refine hK.out _ _ (hHeld) (fun hHeld => ?_)
      clear hK K
      try simp only [Act.put, List.setIfInBounds_toArray, List.set_cons_zero, List.set_cons_succ]
      refine wpAnyH_done (by kernel_rfl) ?_ _
      go_wp2_with fail
      go_meet
      exact ⟨hPS, g, B, d, rfl, rfl, hb.fill tc.toArray (by rw [Gt.s36]; rfl), rdc_sets hr hne tc⟩
     ·
      go_simp
      have hPn := Gp.kp _ _ hP2 (bt_new w2 (.cells #[.string { data := #[] }, .string { data := #[] }, .string { data := #[] }, .string { data := #[] }, .string { data := #[] }, .string { data := #[] }, .string { data := #[] }, .string { data := #[] }, .string { data := #[] }, .int .i64 0, .int .i64 0, .int .i64 0, .int .i64 0, .int .i64 0, .int .i64 0, .int .i64 0, .int .i64 0, .int .i64 0, .string { data := #[] }, .string { data := #[] }, .string { data := #[] }, .string { data := #[] }, .string { data := #[] }, .string { data := #[] }, .string { data := #[] }, .string { data := #[] }, .string { data := #[] }, .int .i64 0, .int .i64 0, .int .i64 0, .int .i64 0, .int .i64 0, .int .i64 0, .int .i64 0, .int .i64 0, .int .i64 0] 54))
      refine hK.out _ _ ⟨Gp.c36 _ hPn, hPn⟩ (fun hHeld => ?_)
      clear hK K
      try simp only [Act.put, List.setIfInBounds_toArray, List.set_cons_zero, List.set_cons_succ]
      have hlo := Gp.lo _ hP2
      have hb0 := Bk.new w2 54 #[.string { data := #[] }, .string { data := #[] }, .string { data := #[] }, .string { data := #[] }, .string { data := #[] }, .string { data := #[] }, .string { data := #[] }, .string { data := #[] }, .string { data := #[] }, .int .i64 0, .int .i64 0, .int .i64 0, .int .i64 0, .int .i64 0, .int .i64 0, .int .i64 0, .int .i64 0, .int .i64 0, .string { data := #[] }, .string { data := #[] }, .string { data := #[] }, .string { data := #[] }, .string { data := #[] }, .string { data := #[] }, .string { data := #[] }, .string { data := #[] }, .string { data := #[] }, .int .i64 0, .int .i64 0, .int .i64 0, .int .i64 0, .int .i64 0, .int .i64 0, .int .i64 0, .int .i64 0, .int .i64 0]
      clear hP2 hHeld
      generalize (w2.alloc (.cells #[.string { data := #[] }, .string { data := #[] }, .string { data := #[] }, .string { data := #[] }, .string { data := #[] }, .string { data := #[] }, .string { data := #[] }, .string { data := #[] }, .string { data := #[] }, .int .i64 0, .int .i64 0, .int .i64 0, .int .i64 0, .int .i64 0, .int .i64 0, .int .i64 0, .int .i64 0, .int .i64 0, .string { data := #[] }, .string { data := #[] }, .string { data := #[] }, .string { data := #[] }, .string { data := #[] }, .string { data := #[] }, .string { data := #[] }, .string { data := #[] }, .string { data := #[] }, .int .i64 0, .int .i64 0, .int .i64 0, .int .i64 0, .int .i64 0, .int .i64 0, .int .i64 0, .int .i64 0, .int .i64 0] 54)) = Wn at hPn hb0 ⊢
      generalize w2.heap.size = g at hb0 hlo ⊢
      refine wpAnyH_ready (rs := [5]) (by kernel_rfl) (by simp) ?_
      refine AllReadyH.cons (o := { dst := some 31, op := Op.call { callee := Callee.value (Operand.func 24), args := #[Operand.tmp 30], argTypes := #[47] }, type := 56, pos := "law.go:116", after := #[{ on := 4, ground := Ground.data }, { on := 2, ground := Ground.chain }], guard := none }) rfl (fun K hK => ?_) AllReadyH.nil
      go_simp
      go_at_call 24
      refine (C.h24 _ hPn).mono ?_
      rintro e X ⟨⟨B, d, rfl, hr, hge3⟩, hb3⟩
      go_wp2_with fail
      have hPX := Gp.kp _ _ hPn hb3
      refine hK.out _ _ ⟨Gp.c36 _ hPX, hPX⟩ (fun hHeld => ?_)
      clear hK K hHeld
      try simp only [Act.put, List.setIfInBounds_toArray, List.set_cons_zero, List.set_cons_succ]
      have hb := hb0.below hb3 hb0.lt
      have hne : ∀ a, B = some a → a.block ≠ g := fun a e => by have := (hge3 a e).1; have := hb0.lt; omega
      clear hge3 hPn hb0 hb3
      refine wpAnyH_ready (rs := [7]) (by kernel_rfl) (by simp) ?_
      refine AllReadyH.cons (o := { dst := none, op := Op.store 54 (Operand.tmp 5) (Operand.tmp 28), type := 0, pos := "law.go:116", after := #[{ on := 6, ground := Ground.data }, { on := 2, ground := Ground.data }, { on := 5, ground := Ground.chain }, { on := 0, ground := Ground.phase }, { on := 1, ground := Ground.phase }, { on := 2, ground := Ground.phase }, { on := 3, ground := Ground.textOnly Departure.lateStores }, { on := 4, ground := Ground.textOnly Departure.lateStores }, { on := 5, ground := Ground.textOnly Departure.lateStoresUnsure }, { on := 6, ground := Ground.phase }], guard := none }) rfl (fun K hK => ?_) AllReadyH.nil
      refine step_store rfl 54 _ _ rfl g 0 tc.toArray rfl rfl (hb.there _ (by rw [Gt.s36]; decide)) Gt.i54 Gt.one ?_
      have hPS := Gp.sets _ g tc hPX hlo
      refine hK.out _ _ ⟨Gp.c36 _ hPS, hPS⟩ (fun hHeld => ?_)
      clear hK K
      try simp only [Act.put, List.setIfInBounds_toArray, List.set_cons_zero, List.set_cons_succ]
      refine wpAnyH_ready (rs := [8]) (by kernel_rfl) (by simp) ?_
      refine AllReadyH.cons (o := { dst := some 6, op := Op.assign (Operand.tmp 31), type := 56, pos := "law.go:116", after := #[{ on := 5, ground := Ground.data }, { on := 7, ground := Ground.chain }, { on := 0, ground := Ground.phase }, { on := 1, ground := Ground.phase }, { on := 2, ground := Ground.phase }, { on := 3, ground := Ground.phase }, { on := 4, ground := Ground.phase }, { on := 5, ground := Ground.phase }, { on := 6, ground := Ground.phase }, { on := 7, ground := Ground.phase }], guard := none }) rfl (fun K hK => ?_) AllReadyH.nil
      go_simp
      refine hK.out _ _ (hHeld) (fun hHeld => ?_)
      clear hK K
      try simp only [Act.put, List.setIfInBounds_toArray, List.set_cons_zero, List.set_cons_succ]
      refine wpAnyH_done (by kernel_rfl) ?_ _
      go_wp2_with fail
      go_meet
      exact ⟨hPS, g, B, d, rfl, rfl, hb.fill tc.toArray (by rw [Gt.s36]; rfl), rdc_sets hr hne tc⟩
    ·
     go_simp
     have hPn : P (W0.alloc (.cells #[.string { data := #[] }, .string { data := #[] }, .string { data := #[] }, .string { data := #[] }, .string { data := #[] }, .string { data := #[] }, .string { data := #[] }, .string { data := #[] }, .string { data := #[] }, .int .i64 0, .int .i64 0, .int .i64 0, .int .i64 0, .int .i64 0, .int .i64 0, .int .i64 0, .int .i64 0, .int .i64 0, .string { data := #[] }, .string { data := #[] }, .string { data := #[] }, .string { data := #[] }, .string { data := #[] }, .string { data := #[] }, .string { data := #[] }, .string { data := #[] }, .string { data := #[] }, .int .i64 0, .int .i64 0, .int .i64 0, .int .i64 0, .int .i64 0, .int .i64 0, .int .i64 0, .int .i64 0, .int .i64 0] 54)).drew := Gp.kp _ _ hP (bt_drew (bt_new W0 _))
     refine hK.out _ _ ⟨Gp.c36 _ hPn, hPn⟩ (fun hHeld => ?_)
     clear hK K hS0
     try simp only [Act.put, List.setIfInBounds_toArray, List.set_cons_zero, List.set_cons_succ]
     have hb0 := (Bk.new W0 54 #[.string { data := #[] }, .string { data := #[] }, .string { data := #[] }, .string { data := #[] }, .string { data := #[] }, .string { data := #[] }, .string { data := #[] }, .string { data := #[] }, .string { data := #[] }, .int .i64 0, .int .i64 0, .int .i64 0, .int .i64 0, .int .i64 0, .int .i64 0, .int .i64 0, .int .i64 0, .int .i64 0, .string { data := #[] }, .string { data := #[] }, .string { data := #[] }, .string { data := #[] }, .string { data := #[] }, .string { data := #[] }, .string { data := #[] }, .string { data := #[] }, .string { data := #[] }, .int .i64 0, .int .i64 0, .int .i64 0, .int .i64 0, .int .i64 0, .int .i64 0, .int .i64 0, .int .i64 0, .int .i64 0]).drew
     have hlo := Gp.lo _ hP
     clear hHeld hP
     generalize (W0.alloc (.cells #[.string { data := #[] }, .string { data := #[] }, .string { data := #[] }, .string { data := #[] }, .string { data := #[] }, .string { data := #[] }, .string { data := #[] }, .string { data := #[] }, .string { data := #[] }, .int .i64 0, .int .i64 0, .int .i64 0, .int .i64 0, .int .i64 0, .int .i64 0, .int .i64 0, .int .i64 0, .int .i64 0, .string { data := #[] }, .string { data := #[] }, .string { data := #[] }, .string { data := #[] }, .string { data := #[] }, .string { data := #[] }, .string { data := #[] }, .string { data := #[] }, .string { data := #[] }, .int .i64 0, .int .i64 0, .int .i64 0, .int .i64 0, .int .i64 0, .int .i64 0, .int .i64 0, .int .i64 0, .int .i64 0] 54)).drew = Wn at hPn hb0 ⊢
     generalize W0.heap.size = g at hb0 hlo ⊢
     refine wpAnyH_ready (rs := [2]) (by kernel_rfl) (by simp) ?_
     refine AllReadyH.cons (o := { dst := some 28, op := Op.call { callee := Callee.value (Operand.func 23), args := #[Operand.tmp 27], argTypes := #[46] }, type := 54, pos := "law.go:116", after := #[{ on := 1, ground := Ground.data }], guard := none }) rfl (fun K hK => ?_) AllReadyH.nil
     go_simp
     go_at_call 23
     refine (C.h23 _).mono ?_
     rintro e w2 ⟨rfl, hb2⟩
     go_wp2_with fail
     have hP2 := Gp.kp _ _ hPn hb2
     have hbk2 := hb0.below hb2 hb0.lt
     refine hK.out _ _ ⟨Gp.c36 _ hP2, hP2⟩ (fun hHeld => ?_)
     clear hK K hHeld hPn hb0 hb2
     try simp only [Act.put, List.setIfInBounds_toArray, List.set_cons_zero, List.set_cons_succ]
     refine wpAnyH_ready (rs := [5]) (by kernel_rfl) (by simp) ?_
     refine AllReadyH.cons (o := { dst := some 31, op := Op.call { callee := Callee.value (Operand.func 24), args := #[Operand.tmp 30], argTypes := #[47] }, type := 56, pos := "law.go:116", after := #[{ on := 4, ground := Ground.data }, { on := 2, ground := Ground.chain }], guard := none }) rfl (fun K hK => ?_) AllReadyH.nil
     go_simp
     go_at_call 24
     refine (C.h24 _ hP2).mono ?_
     rintro e X ⟨⟨B, d, rfl, hr, hge3⟩, hb3⟩
     go_wp2_with fail
     have hPX := Gp.kp _ _ hP2 hb3
     refine hK.out _ _ ⟨Gp.c36 _ hPX, hPX⟩ (fun hHeld => ?_)
     clear hK K hHeld
     try simp only [Act.put, List.setIfInBounds_toArray, List.set_cons_zero, List.set_cons_succ]
     have hb := hbk2.below hb3 hbk2.lt
     have hne : ∀ a, B = some a → a.block ≠ g := fun a e => by have := (hge3 a e).1; have := hbk2.lt; omega
     clear hge3 hP2 hbk2 hb3
     refine wpAnyH_ready (rs := [7]) (by kernel_rfl) (by simp) ?_
     refine AllReadyH.cons (o := { dst := none, op := Op.store 54 (Operand.tmp 5) (Operand.tmp 28), type := 0, pos := "law.go:116", after := #[{ on := 6, ground := Ground.data }, { on := 2, ground := Ground.data }, { on := 5, ground := Ground.chain }, { on := 0, ground := Ground.phase }, { on := 1, ground := Ground.phase }, { on := 2, ground := Ground.phase }, { on := 3, ground := Ground.textOnly Departure.lateStores }, { on := 4, ground := Ground.textOnly Departure.lateStores }, { on := 5, ground := Ground.textOnly Departure.lateStoresUnsure }, { on := 6, ground := Ground.phase }], guard := none }) rfl (fun K hK => ?_) AllReadyH.nil
     refine step_store rfl 54 _ _ rfl g 0 tc.toArray rfl rfl (hb.there _ (by rw [Gt.s36]; decide)) Gt.i54 Gt.one ?_
     have hPS := Gp.sets _ g tc hPX hlo
     refine hK.out _ _ ⟨Gp.c36 _ hPS, hPS⟩ (fun hHeld => ?_)
     clear hK K
     try simp only [Act.put, List.setIfInBounds_toArray, List.set_cons_zero, List.set_cons_succ]
     refine wpAnyH_ready (rs := [8]) (by kernel_rfl) (by simp) ?_
     refine AllReadyH.cons (o := { dst := some 6, op := Op.assign (Operand.tmp 31), type := 56, pos := "law.go:116", after := #[{ on := 5, ground := Ground.data }, { on := 7, ground := Ground.chain }, { on := 0, ground := Ground.phase }, { on := 1, ground := Ground.phase }, { on := 2, ground := Ground.phase }, { on := 3, ground := Ground.phase }, { on := 4, ground := Ground.phase }, { on := 5, ground := Ground.phase }, { on := 6, ground := Ground.phase }, { on := 7, ground := Ground.phase }], guard := none }) rfl (fun K hK => ?_) AllReadyH.nil
     go_simp
     refine hK.out _ _ (hHeld) (fun hHeld => ?_)
     clear hK K
     try simp only [Act.put, List.setIfInBounds_toArray, List.set_cons_zero, List.set_cons_succ]
     refine wpAnyH_done (by kernel_rfl) ?_ _
     go_wp2_with fail
     go_meet
     exact ⟨hPS, g, B, d, rfl, rfl, hb.fill tc.toArray (by rw [Gt.s36]; rfl), rdc_sets hr hne tc⟩
  case rest =>
   obtain ⟨hPc, g5, B, d, rfl, rfl, hb5, hr5⟩ := hcut
   obtain ⟨P1, kP1, hP1, oP1⟩ : ∃ P1 : World → Prop, Keep P1 ∧ P1 wc ∧ Hid (∀ X, P1 X → P X ∧ Bk X g5 54 tc.toArray ∧ RdC X B l) := ⟨fun X => P X ∧ Bk X g5 54 tc.toArray ∧ RdC X B l, keep_and Gp.kp (keep_and (keep_bk _ _ _) (keep_rdc _ _)), ⟨hPc, hb5, hr5⟩, fun _ h => h⟩
   clear hPc hb5 hr5 hP
   generalize wc = W1 at hP1 ⊢
   have c0 := (C.hx _ (oP1.out _ hP1).1).1
   have hb5 := (oP1.out _ hP1).2.1
   have hr5 := (oP1.out _ hP1).2.2
   go_upto_region 5 with (first
    | (refine wpList_load_row rfl 54 _ rfl g5 rfl 54 tc.toArray (0, 0) _ hb5 Tryz.underlying54 rfl Gt.i54 ?_)
    | (go_at_call 35; refine (C.h35 _ _ _ hr5).mono ?_; rintro e w4 ⟨rfl, hb4⟩)
    | (refine wpList_store_mid rfl 54 (.tmp 7) (.tmp 38) rfl w4.heap.size 0 ta.toArray rfl rfl ((Bk.new w4 54 #[.string { data := #[] }, .string { data := #[] }, .string { data := #[] }, .string { data := #[] }, .string { data := #[] }, .string { data := #[] }, .string { data := #[] }, .string { data := #[] }, .string { data := #[] }, .int .i64 0, .int .i64 0, .int .i64 0, .int .i64 0, .int .i64 0, .int .i64 0, .int .i64 0, .int .i64 0, .int .i64 0, .string { data := #[] }, .string { data := #[] }, .string { data := #[] }, .string { data := #[] }, .string { data := #[] }, .string { data := #[] }, .string { data := #[] }, .string { data := #[] }, .string { data := #[] }, .int .i64 0, .int .i64 0, .int .i64 0, .int .i64 0, .int .i64 0, .int .i64 0, .int .i64 0, .int .i64 0, .int .i64 0]).there ta.toArray.size (by rw [Ga.s36]; decide)) Ga.i54 Ga.one ?_))
   have hP4 : P1 ((w4.alloc (.cells #[.string { data := #[] }, .string { data := #[] }, .string { data := #[] }, .string { data := #[] }, .string { data := #[] }, .string { data := #[] }, .string { data := #[] }, .string { data := #[] }, .string { data := #[] }, .int .i64 0, .int .i64 0, .int .i64 0, .int .i64 0, .int .i64 0, .int .i64 0, .int .i64 0, .int .i64 0, .int .i64 0, .string { data := #[] }, .string { data := #[] }, .string { data := #[] }, .string { data := #[] }, .string { data := #[] }, .string { data := #[] }, .string { data := #[] }, .string { data := #[] }, .string { data := #[] }, .int .i64 0, .int .i64 0, .int .i64 0, .int .i64 0, .int .i64 0, .int .i64 0, .int .i64 0, .int .i64 0, .int .i64 0] 54)).setCells w4.heap.size 0 ta) := kP1 _ _ (kP1 _ _ hP1 hb4) (below_sets (Nat.le_refl _) (bt_new w4 _) _ _)
   have hb7 : Bk ((w4.alloc (.cells #[.string { data := #[] }, .string { data := #[] }, .string { data := #[] }, .string { data := #[] }, .string { data := #[] }, .string { data := #[] }, .string { data := #[] }, .string { data := #[] }, .string { data := #[] }, .int .i64 0, .int .i64 0, .int .i64 0, .int .i64 0, .int .i64 0, .int .i64 0, .int .i64 0, .int .i64 0, .int .i64 0, .string { data := #[] }, .string { data := #[] }, .string { data := #[] }, .string { data := #[] }, .string { data := #[] }, .string { data := #[] }, .string { data := #[] }, .string { data := #[] }, .string { data := #[] }, .int .i64 0, .int .i64 0, .int .i64 0, .int .i64 0, .int .i64 0, .int .i64 0, .int .i64 0, .int .i64 0, .int .i64 0] 54)).setCells w4.heap.size 0 ta) w4.heap.size 54 ta.toArray := by
    have := (Bk.new w4 54 #[.string { data := #[] }, .string { data := #[] }, .string { data := #[] }, .string { data := #[] }, .string { data := #[] }, .string { data := #[] }, .string { data := #[] }, .string { data := #[] }, .string { data := #[] }, .int .i64 0, .int .i64 0, .int .i64 0, .int .i64 0, .int .i64 0, .int .i64 0, .int .i64 0, .int .i64 0, .int .i64 0, .string { data := #[] }, .string { data := #[] }, .string { data := #[] }, .string { data := #[] }, .string { data := #[] }, .string { data := #[] }, .string { data := #[] }, .string { data := #[] }, .string { data := #[] }, .int .i64 0, .int .i64 0, .int .i64 0, .int .i64 0, .int .i64 0, .int .i64 0, .int .i64 0, .int .i64 0, .int .i64 0]).fill ta.toArray (by rw [Ga.s36]; rfl)
    simpa using this
   clear hP1 hb4 c0 hb5 hr5
   generalize ((w4.alloc (.cells #[.string { data := #[] }, .string { data := #[] }, .string { data := #[] }, .string { data := #[] }, .string { data := #[] }, .string { data := #[] }, .string { data := #[] }, .string { data := #[] }, .string { data := #[] }, .int .i64 0, .int .i64 0, .int .i64 0, .int .i64 0, .int .i64 0, .int .i64 0, .int .i64 0, .int .i64 0, .int .i64 0, .string { data := #[] }, .string { data := #[] }, .string { data := #[] }, .string { data := #[] }, .string { data := #[] }, .string { data := #[] }, .string { data := #[] }, .string { data := #[] }, .string { data := #[] }, .int .i64 0, .int .i64 0, .int .i64 0, .int .i64 0, .int .i64 0, .int .i64 0, .int .i64 0, .int .i64 0, .int .i64 0] 54)).setCells w4.heap.size 0 ta) = W4 at hP4 hb7 ⊢
   generalize w4.heap.size = g7 at hb7 ⊢
   obtain ⟨P2, kP2, hP2, oP2⟩ : ∃ P2 : World → Prop, Keep P2 ∧ P2 W4 ∧ Hid (∀ X, P2 X → P1 X ∧ Bk X g7 54 ta.toArray) := ⟨fun X => P1 X ∧ Bk X g7 54 ta.toArray, keep_and kP1 (keep_bk _ _ _), ⟨hP4, hb7⟩, fun _ h => h⟩
   clear hP4 hb7
   have hb5 := (oP1.out _ (oP2.out _ hP2).1).2.1
   have hr5 := (oP1.out _ (oP2.out _ hP2).1).2.2
   go_upto_region 6 with (first
    | (refine wpList_load_row rfl 54 _ rfl g5 rfl 54 tc.toArray (0, 0) _ hb5 Tryz.underlying54 rfl Gt.i54 ?_)
    | (go_at_call 36; refine (C.h36 _ _ _ hr5).mono ?_; rintro e w5 ⟨⟨B0, c0, B1, c1, rfl, hr0, hr1⟩, hb⟩))
   have hP5 := kP2 _ _ (kP2 _ _ hP2 hb) (bt_new w5 (.cells #[.slice B0 m0 c0, .slice B1 m1 c1] 75))
   have hb9 := Bk.new w5 75 #[.slice B0 m0 c0, .slice B1 m1 c1]
   replace hr0 := hr0.below (bt_new w5 (.cells #[.slice B0 m0 c0, .slice B1 m1 c1] 75))
   replace hr1 := hr1.below (bt_new w5 (.cells #[.slice B0 m0 c0, .slice B1 m1 c1] 75))
   clear hP2 hb hb5 hr5
   generalize (w5.alloc (.cells #[.slice B0 m0 c0, .slice B1 m1 c1] 75)) = W5 at hP5 hb9 hr0 hr1 ⊢
   generalize w5.heap.size = g9 at hb9 ⊢
   obtain ⟨P3, kP3, hP3, oP3⟩ : ∃ P3 : World → Prop, Keep P3 ∧ P3 W5 ∧ Hid (∀ X, P3 X → P2 X ∧ Bk X g9 75 #[.slice B0 m0 c0, .slice B1 m1 c1] ∧ Rd X B0 (N0.map .string) ∧ Rd X B1 (N1.map .string)) := ⟨fun X => P2 X ∧ Bk X g9 75 #[.slice B0 m0 c0, .slice B1 m1 c1] ∧ Rd X B0 (N0.map .string) ∧ Rd X B1 (N1.map .string), keep_and kP2 (keep_and (keep_bk _ _ _) (keep_and (keep_rd _ _) (keep_rd _ _))), ⟨hP5, hb9, hr0, hr1⟩, fun _ h => h⟩
   have HP0 : Hid (∀ X, P3 X → P X) := fun X h => (oP1.out _ (oP2.out _ (oP3.out _ h).1).1).1
   have HB5 : Hid (∀ X, P3 X → Bk X g5 54 tc.toArray ∧ RdC X B l) := fun X h => (oP1.out _ (oP2.out _ (oP3.out _ h).1).1).2
   clear hP5 hb9 hr0 hr1
   obtain ⟨c0', c1', c2'⟩ := C.hx _ (HP0.out _ hP3)
   have hb5 := (HB5.out _ hP3).1
   have hr5 := (HB5.out _ hP3).2
   go_upto_region 7 with (first
    | (refine wpList_load_row rfl 54 _ rfl g5 rfl 54 tc.toArray (0, 0) _ hb5 Tryz.underlying54 rfl Gt.i54 ?_)
    | (go_at_call 37; refine (C.h37 _ _ _ hr5).mono ?_; rintro e w7 ⟨rfl, hb7⟩))
   have hP7 := kP3 _ _ hP3 hb7
   clear hP3 hb7 c0' c1' c2' hb5 hr5
   have c36 := Gp.c36 _ (HP0.out _ hP7)
   have hR := Gp.r _ (HP0.out _ hP7)
   go_upto_region 8 with (first
    | (refine wpList_load_cells rfl 46 _ rfl w.heap.size 0 rfl tc (fun j hj => by rw [List.getElem?_eq_getElem hj]; exact hR j _ (List.getElem?_eq_getElem hj)) _ Tryz.underlying46 rfl Gt.l46 ?_)
    | (go_at_call 26; refine (C.h26 _ (HP0.out _ hP7)).mono ?_; rintro e w8 ⟨rfl, hb8⟩))
   have hP8 := kP3 _ _ hP7 hb8
   clear hP7 hb8 c36 hR
   obtain ⟨c0', c1', c2'⟩ := C.hx _ (HP0.out _ hP8)
   go_upto_region 9 with (first
    | (go_at_call 39; refine (refRange_any _ _ _ _).mono ?_; rintro e w' ⟨rfl, rfl⟩)
    | (go_at_call 38; refine (lfirst2 _ _ _ _ _ _ (by exact heap_alloc_new _ _)).mono ?_; rintro e w' ⟨rfl, rfl⟩))
   have hP9 := kP3 _ _ hP8 (bt_new w8 (.cells #[.int .i64 cc, .int .i64 (withinE x0 0 256)] 3))
   clear hP8 c0' c1' c2'
   generalize (w8.alloc (.cells #[.int .i64 cc, .int .i64 (withinE x0 0 256)] 3)) = W9 at hP9 ⊢
   rw [C.hone]
   go_upto_region 10 with fail
   obtain ⟨c0', c1', c2'⟩ := C.hx _ (HP0.out _ hP9)
   go_cut [81] from 18 (fun s81 wr => s81 = .bool (decide (one = 0 ∧ x1 ≠ 0 ∧ x1 ≠ 1)) ∧ P3 wr)
   case first =>
    by_cases h0 : one = 0
    ·
     have hz : (one == 0) = true := by simpa using h0
     by_cases h1 : x1 = 0
     ·
      have hz1 : (x1 != 0) = false := by simpa using h1
      have he : Hid (decide (one = 0 ∧ x1 ≠ 0 ∧ x1 ≠ 1) = false) := by show _ = _; simp [h1]
      clear h0 h1
      go_wp2
      go_meet
      exact ⟨by rw [he.out], hP9⟩
     ·
      have hz1 : (x1 != 0) = true := by simpa using h1
      by_cases h2 : x1 = 1
      ·
       have hz2 : (x1 != 1) = false := by simpa using h2
       have he : Hid (decide (one = 0 ∧ x1 ≠ 0 ∧ x1 ≠ 1) = false) := by show _ = _; simp [h2]
       clear h0 h1 h2
       go_wp2
       go_meet
       exact ⟨by rw [he.out], hP9⟩
      ·
       have hz2 : (x1 != 1) = true := by simpa using h2
       have he : Hid (decide (one = 0 ∧ x1 ≠ 0 ∧ x1 ≠ 1) = true) := by show _ = _; simp [h0, h1, h2]
       clear h0 h1 h2
       go_wp2
       go_meet
       exact ⟨by rw [he.out], hP9⟩
    ·
     have hz : (one == 0) = false := by simpa using h0
     have he : Hid (decide (one = 0 ∧ x1 ≠ 0 ∧ x1 ≠ 1) = false) := by show _ = _; simp [h0]
     clear h0
     go_wp2
     go_meet
     exact ⟨by rw [he.out], hP9⟩
   case rest =>
    obtain ⟨rfl, hPc⟩ := hcut
    clear hP9 c0' c1' c2'
    generalize wc = W10 at hPc ⊢
    go_step
    go_cut [15] from 18 (fun s15 wr => s15 = .int .i64 (sideE one x1) ∧ P3 wr)
    case first =>
     by_cases hq : one = 0 ∧ x1 ≠ 0 ∧ x1 ≠ 1
     ·
      have he : Hid (sideE one x1 = 17) := by show _ = _; unfold sideE; rw [if_pos hq]
      rw [decide_eq_true hq]
      clear hq
      go_wp2
      go_meet
      exact ⟨by rw [he.out], hPc⟩
     ·
      have he : Hid (sideE one x1 = one) := by show _ = _; unfold sideE; rw [if_neg hq]
      rw [decide_eq_false hq]
      clear hq
      go_wp2
      go_meet
      exact ⟨by rw [he.out], hPc⟩
    case rest =>
    obtain ⟨rfl, hP9⟩ := hcut
    clear hPc
    generalize wc = W9 at hP9 ⊢
    obtain ⟨c0', c1', c2'⟩ := C.hx _ (HP0.out _ hP9)
    go_upto_region 13 with (first
     | (go_at_call 39; refine (refRange_any _ _ _ _).mono ?_; rintro e w' ⟨rfl, rfl⟩)
     | (go_at_call 38; refine (lfirst2 _ _ _ _ _ _ (by exact heap_alloc_new _ _)).mono ?_; rintro e w' ⟨rfl, rfl⟩))
    have hP12 := kP3 _ _ hP9 (bt_new W9 (.cells #[.int .i64 (sideE one x1), .int .i64 (withinE x2 1 9)] 3))
    clear hP9 c0' c1' c2'
    generalize (W9.alloc (.cells #[.int .i64 (sideE one x1), .int .i64 (withinE x2 1 9)] 3)) = Wb at hP12 ⊢
    rw [C.htwo]
    go_upto_region 15 with fail
    have hPa := kP3 _ _ hP12 (bt_new Wb (.cells #[.string { data := #[] }, .string { data := #[] }, .string { data := #[] }, .string { data := #[] }, .string { data := #[] }, .string { data := #[] }, .string { data := #[] }, .string { data := #[] }, .string { data := #[] }, .int .i64 0, .int .i64 0, .int .i64 0, .int .i64 0, .int .i64 0, .int .i64 0, .int .i64 0, .int .i64 0, .int .i64 0, .string { data := #[] }, .string { data := #[] }, .string { data := #[] }, .string { data := #[] }, .string { data := #[] }, .string { data := #[] }, .string { data := #[] }, .string { data := #[] }, .string { data := #[] }, .int .i64 0, .int .i64 0, .int .i64 0, .int .i64 0, .int .i64 0, .int .i64 0, .int .i64 0, .int .i64 0, .int .i64 0] 46))
    have hba := Bk.new Wb 46 #[.string { data := #[] }, .string { data := #[] }, .string { data := #[] }, .string { data := #[] }, .string { data := #[] }, .string { data := #[] }, .string { data := #[] }, .string { data := #[] }, .string { data := #[] }, .int .i64 0, .int .i64 0, .int .i64 0, .int .i64 0, .int .i64 0, .int .i64 0, .int .i64 0, .int .i64 0, .int .i64 0, .string { data := #[] }, .string { data := #[] }, .string { data := #[] }, .string { data := #[] }, .string { data := #[] }, .string { data := #[] }, .string { data := #[] }, .string { data := #[] }, .string { data := #[] }, .int .i64 0, .int .i64 0, .int .i64 0, .int .i64 0, .int .i64 0, .int .i64 0, .int .i64 0, .int .i64 0, .int .i64 0]
    have hbb := bt_new Wb (.cells #[.string { data := #[] }, .string { data := #[] }, .string { data := #[] }, .string { data := #[] }, .string { data := #[] }, .string { data := #[] }, .string { data := #[] }, .string { data := #[] }, .string { data := #[] }, .int .i64 0, .int .i64 0, .int .i64 0, .int .i64 0, .int .i64 0, .int .i64 0, .int .i64 0, .int .i64 0, .int .i64 0, .string { data := #[] }, .string { data := #[] }, .string { data := #[] }, .string { data := #[] }, .string { data := #[] }, .string { data := #[] }, .string { data := #[] }, .string { data := #[] }, .string { data := #[] }, .int .i64 0, .int .i64 0, .int .i64 0, .int .i64 0, .int .i64 0, .int .i64 0, .int .i64 0, .int .i64 0, .int .i64 0] 46)
    generalize (Wb.alloc (.cells #[.string { data := #[] }, .string { data := #[] }, .string { data := #[] }, .string { data := #[] }, .string { data := #[] }, .string { data := #[] }, .string { data := #[] }, .string { data := #[] }, .string { data := #[] }, .int .i64 0, .int .i64 0, .int .i64 0, .int .i64 0, .int .i64 0, .int .i64 0, .int .i64 0, .int .i64 0, .int .i64 0, .string { data := #[] }, .string { data := #[] }, .string { data := #[] }, .string { data := #[] }, .string { data := #[] }, .string { data := #[] }, .string { data := #[] }, .string { data := #[] }, .string { data := #[] }, .int .i64 0, .int .i64 0, .int .i64 0, .int .i64 0, .int .i64 0, .int .i64 0, .int .i64 0, .int .i64 0, .int .i64 0] 46)) = Wa at hPa hba hbb ⊢
    go_cut [89] from 18 (fun s89 wr => s89 = .bool (one == 0) ∧ wr = Wa)
    case first =>
     go_wp2
     go_meet
     exact ⟨rfl, rfl⟩
    case rest =>
    obtain ⟨rfl, hwc⟩ := hcut
    rw [hwc]
    clear hwc
    go_step
    go_cut [17] from 18 (fun s17 wr => s17 = .string { data := #[] } ∧ P3 wr ∧ Bk wr Wb.heap.size 46 ta.toArray)
    case first =>
     by_cases h0 : one = 0
     ·
      have hz : (one == 0) = true := by simpa using h0
      have c36 := Gp.c36 _ (HP0.out _ hPa)
      have hR := Gp.r _ (HP0.out _ hPa)
      have c0' := (C.hx _ (HP0.out _ hPa)).1
      have H40 := C.h40 h0
      clear h0
      go_wp2_with (first
       | (refine wpList_load_cells rfl 46 _ rfl w.heap.size 0 rfl tc (fun j hj => by rw [List.getElem?_eq_getElem hj]; exact hR j _ (List.getElem?_eq_getElem hj)) _ Tryz.underlying46 rfl Gt.l46 ?_)
       | (go_at_call 40; refine (H40 _ (HP0.out _ hPa)).mono ?_; rintro e w14 ⟨rfl, hb14⟩)
       | (refine wpList_store_mid rfl 46 (.tmp 16) (.tmp 96) rfl Wb.heap.size 0 ta.toArray rfl rfl ((hba.below hb14 hba.lt).there ta.toArray.size (by rw [Ga.s36]; decide)) Ga.i46 Ga.one ?_))
      go_meet
      have hb15 := (hba.below hb14 hba.lt).fill ta.toArray (by rw [Ga.s36]; rfl)
      exact ⟨rfl, kP3 _ _ hP12 (below_sets (Nat.le_refl _) (bt_trans hbb hb14) _ _), by simpa using hb15⟩
     ·
      have hz : (one == 0) = false := by simpa using h0
      have hZ := C.hz h0
      clear h0
      go_wp2
      go_meet
      exact ⟨rfl, hPa, by rw [hZ]; exact hba⟩
    case rest =>
     obtain ⟨rfl, hPc, hbc⟩ := hcut
     clear hPa hba hbb hP12
     generalize Wb.heap.size = g16 at hbc ⊢
     obtain ⟨P4, kP4, hP4, oP4⟩ : ∃ P4 : World → Prop, Keep P4 ∧ P4 wc ∧ Hid (∀ X, P4 X → P3 X ∧ Bk X g16 46 ta.toArray) := ⟨fun X => P3 X ∧ Bk X g16 46 ta.toArray, keep_and kP3 (keep_bk _ _ _), ⟨hPc, hbc⟩, fun _ h => h⟩
     have HP4 : Hid (∀ X, P4 X → P X) := fun X h => HP0.out _ (oP4.out _ h).1
     clear hPc hbc
     generalize wc = W16 at hP4 ⊢
     go_upto_region 17 with fail
     go_cut [98] from 18 (fun s98 wr => s98 = .bool (two == 0) ∧ wr = W16)
     case first =>
      go_wp2
      go_meet
      exact ⟨rfl, rfl⟩
     case rest =>
     obtain ⟨rfl, hwc⟩ := hcut
     rw [hwc]
     clear hwc
     go_step
     go_cut [17] from 18 (fun s17 wr => s17 = .string who ∧ P4 wr)
     case first =>
      by_cases h0 : two = 0
      ·
       have hz : (two == 0) = true := by simpa using h0
       have c36 := Gp.c36 _ (HP4.out _ hP4)
       have hR := Gp.r _ (HP4.out _ hP4)
       obtain ⟨c0', c1', c2'⟩ := C.hx _ (HP4.out _ hP4)
       have H41 := C.h41 h0
       clear h0
       go_wp2_with (first
        | (refine wpList_load_cells rfl 46 _ rfl w.heap.size 0 rfl tc (fun j hj => by rw [List.getElem?_eq_getElem hj]; exact hR j _ (List.getElem?_eq_getElem hj)) _ Tryz.underlying46 rfl Gt.l46 ?_)
        | (go_at_call 41; refine (H41 _ (HP4.out _ hP4)).mono ?_; rintro e w17 ⟨rfl, hb17⟩))
       go_meet
       exact ⟨rfl, kP4 _ _ hP4 hb17⟩
      ·
       have hz : (two == 0) = false := by simpa using h0
       have hw := C.hw h0
       clear h0
       go_wp2
       go_meet
       exact ⟨by rw [hw]; rfl, hP4⟩
     case rest =>
      obtain ⟨rfl, hPc⟩ := hcut
      clear hP4
      revert hPc
      generalize wc = W17
      intro hP4
      have HR7 : Hid (∀ X, P4 X → X.rangeAt g7 0 ta) := fun X h => bkRangeT (oP2.out _ (oP3.out _ (oP4.out _ h).1).1).2
      have HR16 : Hid (∀ X, P4 X → X.rangeAt g16 0 ta) := fun X h => bkRangeT (oP4.out _ h).2
      go_upto_region 19 with fail
      go_cut [128] from 18 (fun s128 wr => s128 = .bool false ∧ P4 wr)
      case first =>
       as_aux_lemma =>
        have hne := C.hne
        have hP4d : P4 W17.drew := kP4 _ _ hP4 (bt_drew (Below.refl _ W17))
        refine wp_region_held_drew (S := P4) (by kernel_rfl) (hP4d) (fun hHeld => ?_)
        refine' wpAnyH_take (i := 0) (oi := { dst := some 110, op := Op.load 54 (Operand.tmp 7), type := 54, pos := "law.go:135", after := #[], guard := none }) (v := _) rfl (by kernel_rfl) (by kernel_rfl) (by kernel_rfl) (fun _ _ _ h => h) (yieldsIf_load_mid (by kernel_rfl) _ _ rfl _ _ rfl (ta) _ (fun W h => HR7.out W h) Tryz.underlying54 rfl (Ga.l54)) (by assumption) ?rest5
        try simp only [Act.put, List.setIfInBounds_toArray, List.set_cons_zero, List.set_cons_succ]
        refine' wpAnyH_take (i := 2) (oi := { dst := some 112, op := Op.load 46 (Operand.tmp 16), type := 46, pos := "law.go:135", after := #[], guard := none }) (v := _) rfl (by kernel_rfl) (by kernel_rfl) (by kernel_rfl) (fun _ _ _ h => h) (yieldsIf_load_mid (by kernel_rfl) _ _ rfl _ _ rfl (ta) _ (fun W h => HR16.out W h) Tryz.underlying46 rfl (Ga.l46)) (by assumption) ?rest6
        try simp only [Act.put, List.setIfInBounds_toArray, List.set_cons_zero, List.set_cons_succ]
        refine wpAnyH_ready (rs := [1]) (by kernel_rfl) (by simp) ?_
        refine AllReadyH.cons (o := { dst := some 111, op := Op.call { callee := Callee.value (Operand.func 29), args := #[Operand.tmp 110], argTypes := #[54] }, type := 46, pos := "law.go:135", after := #[{ on := 0, ground := Ground.data }], guard := none }) rfl (fun K hK => ?_) AllReadyH.nil
        go_simp
        (go_at_call 29; refine (C.h29 _).mono ?_; rintro e w19 ⟨rfl, hb19⟩)
        go_wp2_with fail
        refine hK.out _ _ (kP4 _ _ hHeld hb19) (fun hHeld => ?_)
        clear hK K
        try simp only [Act.put, List.setIfInBounds_toArray, List.set_cons_zero, List.set_cons_succ]
        refine' wpAnyH_take (i := 3) (oi := { dst := some 113, op := Op.binOp BinOp.neq 46 (Operand.tmp 111) (Operand.tmp 112) 46, type := 4, pos := "law.go:135", after := #[{ on := 1, ground := Ground.data }, { on := 2, ground := Ground.data }], guard := none }) (v := _) rfl (by kernel_rfl) (by kernel_rfl) (by kernel_rfl) (fun _ _ _ h => h) (Or.inl ⟨by kernel_rfl, ?hy7⟩) (by assumption) ?rest7
        case hy7 => (intro W hSW; (try dsimp only at hSW); go_simp; with_reducible rfl)
        try simp only [Act.put, List.setIfInBounds_toArray, List.set_cons_zero, List.set_cons_succ]
        refine' wpAnyH_take (i := 4) (oi := { dst := some 114, op := Op.move (Operand.tmp 113), type := 4, pos := "law.go:135", after := #[{ on := 3, ground := Ground.data }, { on := 1, ground := Ground.chain }], guard := none }) (v := _) rfl (by kernel_rfl) (by kernel_rfl) (by kernel_rfl) (fun _ _ _ h => h) (Or.inl ⟨by kernel_rfl, ?hy8⟩) (by assumption) ?rest8
        case hy8 => (intro W hSW; (try dsimp only at hSW); go_simp; with_reducible rfl)
        try simp only [Act.put, List.setIfInBounds_toArray, List.set_cons_zero, List.set_cons_succ]
        refine' wpAnyH_take (i := 5) (oi := { dst := some 115, op := Op.move (Operand.tmp 8), type := 30, pos := "law.go:135", after := #[{ on := 4, ground := Ground.guard }], guard := some (4, false) }) (v := _) rfl (by kernel_rfl) (by kernel_rfl) (by kernel_rfl) (fun _ _ _ h => h) (Or.inl ⟨by kernel_rfl, ?hy9⟩) (by assumption) ?rest9
        case hy9 => (intro W hSW; (try dsimp only at hSW); go_simp; with_reducible rfl)
        try simp only [Act.put, List.setIfInBounds_toArray, List.set_cons_zero, List.set_cons_succ]
        refine' wpAnyH_take (i := 6) (oi := { dst := some 116, op := Op.move (Operand.tmp 14), type := 3, pos := "law.go:135", after := #[{ on := 4, ground := Ground.guard }], guard := some (4, false) }) (v := _) rfl (by kernel_rfl) (by kernel_rfl) (by kernel_rfl) (fun _ _ _ h => h) (Or.inl ⟨by kernel_rfl, ?hy10⟩) (by assumption) ?rest10
        case hy10 => (intro W hSW; (try dsimp only at hSW); go_simp; with_reducible rfl)
        try simp only [Act.put, List.setIfInBounds_toArray, List.set_cons_zero, List.set_cons_succ]
        refine' wpAnyH_take (i := 7) (oi := { dst := some 117, op := Op.binOp BinOp.neq 3 (Operand.tmp 115) (Operand.tmp 116) 3, type := 4, pos := "law.go:135", after := #[{ on := 5, ground := Ground.data }, { on := 6, ground := Ground.data }, { on := 4, ground := Ground.guard }], guard := some (4, false) }) (v := _) rfl (by kernel_rfl) (by kernel_rfl) (by kernel_rfl) (fun _ _ _ h => h) (Or.inl ⟨by kernel_rfl, ?hy11⟩) (by assumption) ?rest11
        case hy11 => (intro W hSW; (try dsimp only at hSW); go_simp; with_reducible rfl)
        try simp only [Act.put, List.setIfInBounds_toArray, List.set_cons_zero, List.set_cons_succ]
        refine' wpAnyH_take (i := 8) (oi := { dst := some 118, op := Op.pick (Operand.tmp 114) (Operand.const (Value.bool true)) (Operand.tmp 117), type := 4, pos := "law.go:135", after := #[{ on := 4, ground := Ground.data }, { on := 7, ground := Ground.data }], guard := none }) (v := _) rfl (by kernel_rfl) (by kernel_rfl) (by kernel_rfl) (fun _ _ _ h => h) (Or.inl ⟨by kernel_rfl, ?hy12⟩) (by assumption) ?rest12
        case hy12 => (intro W hSW; (try dsimp only at hSW); go_simp; with_reducible rfl)
        try simp only [Act.put, List.setIfInBounds_toArray, List.set_cons_zero, List.set_cons_succ]
        refine' wpAnyH_take (i := 9) (oi := { dst := some 119, op := Op.move (Operand.tmp 118), type := 4, pos := "law.go:135", after := #[{ on := 8, ground := Ground.data }, { on := 4, ground := Ground.chain }], guard := none }) (v := _) rfl (by kernel_rfl) (by kernel_rfl) (by kernel_rfl) (fun _ _ _ h => h) (Or.inl ⟨by kernel_rfl, ?hy13⟩) (by assumption) ?rest13
        case hy13 => (intro W hSW; (try dsimp only at hSW); go_simp; with_reducible rfl)
        try simp only [Act.put, List.setIfInBounds_toArray, List.set_cons_zero, List.set_cons_succ]
        refine' wpAnyH_take (i := 10) (oi := { dst := some 120, op := Op.move (Operand.tmp 11), type := 9, pos := "law.go:135", after := #[{ on := 9, ground := Ground.guard }], guard := some (9, false) }) (v := _) rfl (by kernel_rfl) (by kernel_rfl) (by kernel_rfl) (fun _ _ _ h => h) (Or.inl ⟨by kernel_rfl, ?hy14⟩) (by assumption) ?rest14
        case hy14 => (intro W hSW; (try dsimp only at hSW); go_simp; with_reducible rfl)
        try simp only [Act.put, List.setIfInBounds_toArray, List.set_cons_zero, List.set_cons_succ]
        refine' wpAnyH_take (i := 11) (oi := { dst := some 121, op := Op.move (Operand.tmp 17), type := 9, pos := "law.go:135", after := #[{ on := 9, ground := Ground.guard }], guard := some (9, false) }) (v := _) rfl (by kernel_rfl) (by kernel_rfl) (by kernel_rfl) (fun _ _ _ h => h) (Or.inl ⟨by kernel_rfl, ?hy15⟩) (by assumption) ?rest15
        case hy15 => (intro W hSW; (try dsimp only at hSW); go_simp; with_reducible rfl)
        try simp only [Act.put, List.setIfInBounds_toArray, List.set_cons_zero, List.set_cons_succ]
        refine' wpAnyH_take (i := 12) (oi := { dst := some 122, op := Op.binOp BinOp.neq 9 (Operand.tmp 120) (Operand.tmp 121) 9, type := 4, pos := "law.go:135", after := #[{ on := 10, ground := Ground.data }, { on := 11, ground := Ground.data }, { on := 9, ground := Ground.guard }], guard := some (9, false) }) (v := _) rfl (by kernel_rfl) (by kernel_rfl) (by kernel_rfl) (fun _ _ _ h => h) (Or.inl ⟨by kernel_rfl, ?hy16⟩) (by assumption) ?rest16
        case hy16 => (intro W hSW; (try dsimp only at hSW); go_simp; with_reducible rfl)
        try simp only [Act.put, List.setIfInBounds_toArray, List.set_cons_zero, List.set_cons_succ]
        refine' wpAnyH_take (i := 13) (oi := { dst := some 123, op := Op.pick (Operand.tmp 119) (Operand.const (Value.bool true)) (Operand.tmp 122), type := 4, pos := "law.go:135", after := #[{ on := 9, ground := Ground.data }, { on := 12, ground := Ground.data }], guard := none }) (v := _) rfl (by kernel_rfl) (by kernel_rfl) (by kernel_rfl) (fun _ _ _ h => h) (Or.inl ⟨by kernel_rfl, ?hy17⟩) (by assumption) ?rest17
        case hy17 => (intro W hSW; (try dsimp only at hSW); go_simp; with_reducible rfl)
        try simp only [Act.put, List.setIfInBounds_toArray, List.set_cons_zero, List.set_cons_succ]
        refine' wpAnyH_take (i := 14) (oi := { dst := some 124, op := Op.move (Operand.tmp 123), type := 4, pos := "law.go:135", after := #[{ on := 13, ground := Ground.data }, { on := 9, ground := Ground.chain }], guard := none }) (v := _) rfl (by kernel_rfl) (by kernel_rfl) (by kernel_rfl) (fun _ _ _ h => h) (Or.inl ⟨by kernel_rfl, ?hy18⟩) (by assumption) ?rest18
        case hy18 => (intro W hSW; (try dsimp only at hSW); go_simp; with_reducible rfl)
        try simp only [Act.put, List.setIfInBounds_toArray, List.set_cons_zero, List.set_cons_succ]
        refine' wpAnyH_take (i := 15) (oi := { dst := some 125, op := Op.move (Operand.tmp 12), type := 30, pos := "law.go:135", after := #[{ on := 14, ground := Ground.guard }], guard := some (14, false) }) (v := _) rfl (by kernel_rfl) (by kernel_rfl) (by kernel_rfl) (fun _ _ _ h => h) (Or.inl ⟨by kernel_rfl, ?hy19⟩) (by assumption) ?rest19
        case hy19 => (intro W hSW; (try dsimp only at hSW); go_simp; with_reducible rfl)
        try simp only [Act.put, List.setIfInBounds_toArray, List.set_cons_zero, List.set_cons_succ]
        refine' wpAnyH_take (i := 16) (oi := { dst := some 126, op := Op.move (Operand.tmp 15), type := 3, pos := "law.go:135", after := #[{ on := 14, ground := Ground.guard }], guard := some (14, false) }) (v := _) rfl (by kernel_rfl) (by kernel_rfl) (by kernel_rfl) (fun _ _ _ h => h) (Or.inl ⟨by kernel_rfl, ?hy20⟩) (by assumption) ?rest20
        case hy20 => (intro W hSW; (try dsimp only at hSW); go_simp; with_reducible rfl)
        try simp only [Act.put, List.setIfInBounds_toArray, List.set_cons_zero, List.set_cons_succ]
        refine' wpAnyH_take (i := 17) (oi := { dst := some 127, op := Op.binOp BinOp.neq 3 (Operand.tmp 125) (Operand.tmp 126) 3, type := 4, pos := "law.go:135", after := #[{ on := 15, ground := Ground.data }, { on := 16, ground := Ground.data }, { on := 14, ground := Ground.guard }], guard := some (14, false) }) (v := _) rfl (by kernel_rfl) (by kernel_rfl) (by kernel_rfl) (fun _ _ _ h => h) (Or.inl ⟨by kernel_rfl, ?hy21⟩) (by assumption) ?rest21
        case hy21 => (intro W hSW; (try dsimp only at hSW); go_simp; with_reducible rfl)
        try simp only [Act.put, List.setIfInBounds_toArray, List.set_cons_zero, List.set_cons_succ]
        refine' wpAnyH_take (i := 18) (oi := { dst := some 128, op := Op.pick (Operand.tmp 124) (Operand.const (Value.bool true)) (Operand.tmp 127), type := 4, pos := "law.go:135", after := #[{ on := 14, ground := Ground.data }, { on := 17, ground := Ground.data }], guard := none }) (v := _) rfl (by kernel_rfl) (by kernel_rfl) (by kernel_rfl) (fun _ _ _ h => h) (Or.inl ⟨by kernel_rfl, ?hy22⟩) (by assumption) ?rest22
        case hy22 => (intro W hSW; (try dsimp only at hSW); go_simp; with_reducible rfl)
        try simp only [Act.put, List.setIfInBounds_toArray, List.set_cons_zero, List.set_cons_succ]
        refine wpAnyH_done (by kernel_rfl) ?_ _
        go_wp2_with fail
        go_meet
        exact ⟨by simp, hHeld⟩
      case rest =>
       obtain ⟨rfl, hPc⟩ := hcut
       clear hP4
       revert hPc
       generalize wc = W19
       intro hP4
       have HZ9 : Hid (∀ X, P4 X → X.cell? ⟨g9, 0, none⟩ = some (.slice B0 m0 c0) ∧ X.cell? ⟨g9, 1, none⟩ = some (.slice B1 m1 c1)) := fun X h => by
        have hb := (oP3.out _ (oP4.out _ h).1).2.1
        constructor <;> rw [hb.cell] <;> rfl
       have HRd : Hid (∀ X, P4 X → Rd X B0 (N0.map .string) ∧ Rd X B1 (N1.map .string)) := fun X h => (oP3.out _ (oP4.out _ h).1).2.2
       by_cases hcc : cc = 0
       ·
        have hz : (cc != 0) = false := by simpa using hcc
        have H430 := C.h430 hcc
        have H431 := C.h431 hcc
        skip
        subst hcc
        go_upto_region 23 with fail
        have HS : Hid (∀ X, P4 X → (X.cell? ⟨g9, 0, none⟩ = some (.slice B0 m0 c0) ∧ X.cell? ⟨g9, 1, none⟩ = some (.slice B1 m1 c1) ∧ X.cell? ⟨w.heap.size, 36, none⟩ = some (.slice A n c) ∧ P4 X)) := fun X h => ⟨(HZ9.out X h).1, (HZ9.out X h).2, Gp.c36 _ (HP4.out _ h), h⟩
        have hS0 := HS.out _ (kP4 _ _ hP4 (bt_drew (Below.refl _ W19)))
        as_aux_lemma =>
         refine wp_region_held_drew (S := (fun X => X.cell? ⟨g9, 0, none⟩ = some (.slice B0 m0 c0) ∧ X.cell? ⟨g9, 1, none⟩ = some (.slice B1 m1 c1) ∧ X.cell? ⟨w.heap.size, 36, none⟩ = some (.slice A n c) ∧ P4 X)) (by kernel_rfl) (hS0) (fun hHeld => ?_)
         refine' wpAnyH_take (i := 0) (oi := { dst := some 146, op := Op.indexAddr 75 (Operand.tmp 9) (Operand.const (Value.int IntKind.i64 0)), type := 0, pos := "law.go:141", after := #[], guard := none }) (v := _) rfl (by kernel_rfl) (by kernel_rfl) (by kernel_rfl) (fun _ _ _ h => h) (Or.inl ⟨by kernel_rfl, ?hy23⟩) (by assumption) ?rest23
         case hy23 => (intro W hSW; (try dsimp only at hSW); go_simp; with_reducible rfl)
         try simp only [Act.put, List.setIfInBounds_toArray, List.set_cons_zero, List.set_cons_succ]
         refine' wpAnyH_take (i := 1) (oi := { dst := some 147, op := Op.load 26 (Operand.tmp 146), type := 26, pos := "law.go:141", after := #[{ on := 0, ground := Ground.data }], guard := none }) (v := _) rfl (by kernel_rfl) (by kernel_rfl) (by kernel_rfl) (fun _ _ _ h => h) (Or.inl ⟨by kernel_rfl, ?hy24⟩) (by assumption) ?rest24
         case hy24 => (intro W hSW; (try dsimp only at hSW); go_simp; with_reducible rfl)
         try simp only [Act.put, List.setIfInBounds_toArray, List.set_cons_zero, List.set_cons_succ]
         refine' wpAnyH_take (i := 2) (oi := { dst := some 148, op := Op.move (Operand.tmp 10), type := 30, pos := "law.go:141", after := #[], guard := none }) (v := _) rfl (by kernel_rfl) (by kernel_rfl) (by kernel_rfl) (fun _ _ _ h => h) (Or.inl ⟨by kernel_rfl, ?hy25⟩) (by assumption) ?rest25
         case hy25 => (intro W hSW; (try dsimp only at hSW); go_simp; with_reducible rfl)
         try simp only [Act.put, List.setIfInBounds_toArray, List.set_cons_zero, List.set_cons_succ]
         refine' wpAnyH_take (i := 3) (oi := { dst := some 149, op := Op.fieldAddr 49 (Operand.tmp 2) 0, type := 0, pos := "law.go:141", after := #[], guard := none }) (v := _) rfl (by kernel_rfl) (by kernel_rfl) (by kernel_rfl) (fun _ _ _ h => h) (Or.inl ⟨by kernel_rfl, ?hy26⟩) (by assumption) ?rest26
         case hy26 => (intro W hSW; (try dsimp only at hSW); go_simp; with_reducible rfl)
         try simp only [Act.put, List.setIfInBounds_toArray, List.set_cons_zero, List.set_cons_succ]
         refine' wpAnyH_take (i := 4) (oi := { dst := some 150, op := Op.load 46 (Operand.tmp 149), type := 46, pos := "law.go:141", after := #[{ on := 3, ground := Ground.data }], guard := none }) (v := _) rfl (by kernel_rfl) (by kernel_rfl) (by kernel_rfl) (fun _ _ _ h => h) (yieldsIf_load_mid (by kernel_rfl) _ _ rfl _ _ rfl (tc) _ (fun W h => Gp.r W (HP4.out W h.2.2.2)) Tryz.underlying46 rfl (Gt.l46)) (by assumption) ?rest27
         try simp only [Act.put, List.setIfInBounds_toArray, List.set_cons_zero, List.set_cons_succ]
         refine' wpAnyH_take (i := 5) (oi := { dst := some 151, op := Op.fieldAddr 49 (Operand.tmp 2) 1, type := 0, pos := "law.go:141", after := #[], guard := none }) (v := _) rfl (by kernel_rfl) (by kernel_rfl) (by kernel_rfl) (fun _ _ _ h => h) (Or.inl ⟨by kernel_rfl, ?hy28⟩) (by assumption) ?rest28
         case hy28 => (intro W hSW; (try dsimp only at hSW); go_simp; with_reducible rfl)
         try simp only [Act.put, List.setIfInBounds_toArray, List.set_cons_zero, List.set_cons_succ]
         refine' wpAnyH_take (i := 6) (oi := { dst := some 152, op := Op.load 47 (Operand.tmp 151), type := 47, pos := "law.go:141", after := #[{ on := 5, ground := Ground.data }], guard := none }) (v := _) rfl (by kernel_rfl) (by kernel_rfl) (by kernel_rfl) (fun _ _ _ h => h) (Or.inl ⟨by kernel_rfl, ?hy29⟩) (by assumption) ?rest29
         case hy29 => (intro W hSW; (try dsimp only at hSW); go_simp; with_reducible rfl)
         try simp only [Act.put, List.setIfInBounds_toArray, List.set_cons_zero, List.set_cons_succ]
         refine wpAnyH_ready (rs := [7]) (by kernel_rfl) (by simp) ?_
         refine AllReadyH.cons (o := { dst := some 153, op := Op.call { callee := Callee.value (Operand.func 43), args := #[Operand.tmp 150, Operand.tmp 152, Operand.const (Value.int IntKind.i64 0)], argTypes := #[46, 47, 3] }, type := 26, pos := "law.go:141", after := #[{ on := 4, ground := Ground.data }, { on := 6, ground := Ground.data }], guard := none }) rfl (fun K hK => ?_) AllReadyH.nil
         go_simp
         (go_at_call 43; refine (H430 _ (HP4.out _ hHeld.2.2.2)).mono ?_; rintro e y1 ⟨⟨D0, d0, rfl, hd0⟩, hy1⟩)
         go_wp2_with fail
         refine hK.out _ _ (HS.out _ (kP4 _ _ hHeld.2.2.2 hy1)) (fun hHeld => ?_)
         clear hK K
         try simp only [Act.put, List.setIfInBounds_toArray, List.set_cons_zero, List.set_cons_succ]
         refine wpAnyH_ready (rs := [8]) (by kernel_rfl) (by simp) ?_
         refine AllReadyH.cons (o := { dst := some 154, op := Op.call { callee := Callee.value (Operand.func 42), args := #[Operand.tmp 147, Operand.tmp 148, Operand.const (Value.int IntKind.i64 0), Operand.tmp 153], argTypes := #[26, 30, 3, 26] }, type := 4, pos := "law.go:141", after := #[{ on := 1, ground := Ground.data }, { on := 2, ground := Ground.data }, { on := 7, ground := Ground.data }, { on := 7, ground := Ground.chain }], guard := none }) rfl (fun K hK => ?_) AllReadyH.nil
         go_simp
         (go_at_call 42; refine (words_ok N0 B0 D0 m0 c0 d0 _ C.hnl.1 C.hnl.2.2.1 (HRd.out _ hHeld.2.2.2).1 hd0).mono ?_; rintro e y2 ⟨rfl, q2, rfl⟩)
         go_wp2_with fail
         refine hK.out _ _ (HS.out _ (kP4 _ _ hHeld.2.2.2 (bt_drewN (Below.refl _ _) q2))) (fun hHeld => ?_)
         clear hK K
         try simp only [Act.put, List.setIfInBounds_toArray, List.set_cons_zero, List.set_cons_succ]
         refine' wpAnyH_take (i := 9) (oi := { dst := some 155, op := Op.move (Operand.tmp 154), type := 4, pos := "law.go:141", after := #[{ on := 8, ground := Ground.data }, { on := 8, ground := Ground.chain }], guard := none }) (v := _) rfl (by kernel_rfl) (by kernel_rfl) (by kernel_rfl) (fun _ _ _ h => h) (Or.inl ⟨by kernel_rfl, ?hy30⟩) (by assumption) ?rest30
         case hy30 => (intro W hSW; (try dsimp only at hSW); go_simp; with_reducible rfl)
         try simp only [Act.put, List.setIfInBounds_toArray, List.set_cons_zero, List.set_cons_succ]
         refine' wpAnyH_take (i := 10) (oi := { dst := some 156, op := Op.indexAddr 75 (Operand.tmp 9) (Operand.const (Value.int IntKind.i64 1)), type := 0, pos := "law.go:141", after := #[{ on := 9, ground := Ground.guard }], guard := some (9, true) }) (v := _) rfl (by kernel_rfl) (by kernel_rfl) (by kernel_rfl) (fun _ _ _ h => h) (Or.inl ⟨by kernel_rfl, ?hy31⟩) (by assumption) ?rest31
         case hy31 => (intro W hSW; (try dsimp only at hSW); go_simp; with_reducible rfl)
         try simp only [Act.put, List.setIfInBounds_toArray, List.set_cons_zero, List.set_cons_succ]
         refine' wpAnyH_take (i := 11) (oi := { dst := some 157, op := Op.load 26 (Operand.tmp 156), type := 26, pos := "law.go:141", after := #[{ on := 10, ground := Ground.data }, { on := 9, ground := Ground.guard }], guard := some (9, true) }) (v := _) rfl (by kernel_rfl) (by kernel_rfl) (by kernel_rfl) (fun _ _ _ h => h) (Or.inl ⟨by kernel_rfl, ?hy32⟩) (by assumption) ?rest32
         case hy32 => (intro W hSW; (try dsimp only at hSW); go_simp; with_reducible rfl)
         try simp only [Act.put, List.setIfInBounds_toArray, List.set_cons_zero, List.set_cons_succ]
         refine' wpAnyH_take (i := 12) (oi := { dst := some 158, op := Op.move (Operand.tmp 10), type := 30, pos := "law.go:141", after := #[{ on := 9, ground := Ground.guard }], guard := some (9, true) }) (v := _) rfl (by kernel_rfl) (by kernel_rfl) (by kernel_rfl) (fun _ _ _ h => h) (Or.inl ⟨by kernel_rfl, ?hy33⟩) (by assumption) ?rest33
         case hy33 => (intro W hSW; (try dsimp only at hSW); go_simp; with_reducible rfl)
         try simp only [Act.put, List.setIfInBounds_toArray, List.set_cons_zero, List.set_cons_succ]
         refine' wpAnyH_take (i := 13) (oi := { dst := some 159, op := Op.fieldAddr 49 (Operand.tmp 2) 0, type := 0, pos := "law.go:141", after := #[{ on := 9, ground := Ground.guard }], guard := some (9, true) }) (v := _) rfl (by kernel_rfl) (by kernel_rfl) (by kernel_rfl) (fun _ _ _ h => h) (Or.inl ⟨by kernel_rfl, ?hy34⟩) (by assumption) ?rest34
         case hy34 => (intro W hSW; (try dsimp only at hSW); go_simp; with_reducible rfl)
         try simp only [Act.put, List.setIfInBounds_toArray, List.set_cons_zero, List.set_cons_succ]
         refine' wpAnyH_take (i := 14) (oi := { dst := some 160, op := Op.load 46 (Operand.tmp 159), type := 46, pos := "law.go:141", after := #[{ on := 13, ground := Ground.data }, { on := 9, ground := Ground.guard }], guard := some (9, true) }) (v := _) rfl (by kernel_rfl) (by kernel_rfl) (by kernel_rfl) (fun _ _ _ h => h) (yieldsIf_load_mid (by kernel_rfl) _ _ rfl _ _ rfl (tc) _ (fun W h => Gp.r W (HP4.out W h.2.2.2)) Tryz.underlying46 rfl (Gt.l46)) (by assumption) ?rest35
         try simp only [Act.put, List.setIfInBounds_toArray, List.set_cons_zero, List.set_cons_succ]
         refine' wpAnyH_take (i := 15) (oi := { dst := some 161, op := Op.fieldAddr 49 (Operand.tmp 2) 1, type := 0, pos := "law.go:141", after := #[{ on := 9, ground := Ground.guard }], guard := some (9, true) }) (v := _) rfl (by kernel_rfl) (by kernel_rfl) (by kernel_rfl) (fun _ _ _ h => h) (Or.inl ⟨by kernel_rfl, ?hy36⟩) (by assumption) ?rest36
         case hy36 => (intro W hSW; (try dsimp only at hSW); go_simp; with_reducible rfl)
         try simp only [Act.put, List.setIfInBounds_toArray, List.set_cons_zero, List.set_cons_succ]
         refine' wpAnyH_take (i := 16) (oi := { dst := some 162, op := Op.load 47 (Operand.tmp 161), type := 47, pos := "law.go:141", after := #[{ on := 15, ground := Ground.data }, { on := 9, ground := Ground.guard }], guard := some (9, true) }) (v := _) rfl (by kernel_rfl) (by kernel_rfl) (by kernel_rfl) (fun _ _ _ h => h) (Or.inl ⟨by kernel_rfl, ?hy37⟩) (by assumption) ?rest37
         case hy37 => (intro W hSW; (try dsimp only at hSW); go_simp; with_reducible rfl)
         try simp only [Act.put, List.setIfInBounds_toArray, List.set_cons_zero, List.set_cons_succ]
         refine wpAnyH_ready (rs := [17]) (by kernel_rfl) (by simp) ?_
         refine AllReadyH.cons (o := { dst := some 163, op := Op.call { callee := Callee.value (Operand.func 43), args := #[Operand.tmp 160, Operand.tmp 162, Operand.const (Value.int IntKind.i64 1)], argTypes := #[46, 47, 3] }, type := 26, pos := "law.go:141", after := #[{ on := 14, ground := Ground.data }, { on := 16, ground := Ground.data }, { on := 9, ground := Ground.chain }, { on := 9, ground := Ground.guard }], guard := some (9, true) }) rfl (fun K hK => ?_) AllReadyH.nil
         go_simp
         (go_at_call 43; refine (H431 _ (HP4.out _ hHeld.2.2.2)).mono ?_; rintro e y3 ⟨⟨D1, d1, rfl, hd1⟩, hy3⟩)
         go_wp2_with fail
         refine hK.out _ _ (HS.out _ (kP4 _ _ hHeld.2.2.2 hy3)) (fun hHeld => ?_)
         clear hK K
         try simp only [Act.put, List.setIfInBounds_toArray, List.set_cons_zero, List.set_cons_succ]
         refine wpAnyH_ready (rs := [18]) (by kernel_rfl) (by simp) ?_
         refine AllReadyH.cons (o := { dst := some 164, op := Op.call { callee := Callee.value (Operand.func 42), args := #[Operand.tmp 157, Operand.tmp 158, Operand.const (Value.int IntKind.i64 0), Operand.tmp 163], argTypes := #[26, 30, 3, 26] }, type := 4, pos := "law.go:141", after := #[{ on := 11, ground := Ground.data }, { on := 12, ground := Ground.data }, { on := 17, ground := Ground.data }, { on := 17, ground := Ground.chain }, { on := 9, ground := Ground.guard }], guard := some (9, true) }) rfl (fun K hK => ?_) AllReadyH.nil
         go_simp
         (go_at_call 42; refine (words_ok N1 B1 D1 m1 c1 d1 _ C.hnl.2.1 C.hnl.2.2.2 (HRd.out _ hHeld.2.2.2).2 hd1).mono ?_; rintro e y4 ⟨rfl, q4, rfl⟩)
         go_wp2_with fail
         refine hK.out _ _ (HS.out _ (kP4 _ _ hHeld.2.2.2 (bt_drewN (Below.refl _ _) q4))) (fun hHeld => ?_)
         clear hK K
         try simp only [Act.put, List.setIfInBounds_toArray, List.set_cons_zero, List.set_cons_succ]
         refine' wpAnyH_take (i := 19) (oi := { dst := some 165, op := Op.pick (Operand.tmp 155) (Operand.tmp 164) (Operand.const (Value.bool false)), type := 4, pos := "law.go:141", after := #[{ on := 9, ground := Ground.data }, { on := 18, ground := Ground.data }], guard := none }) (v := _) rfl (by kernel_rfl) (by kernel_rfl) (by kernel_rfl) (fun _ _ _ h => h) (Or.inl ⟨by kernel_rfl, ?hy38⟩) (by assumption) ?rest38
         case hy38 => (intro W hSW; (try dsimp only at hSW); go_simp; with_reducible rfl)
         try simp only [Act.put, List.setIfInBounds_toArray, List.set_cons_zero, List.set_cons_succ]
         refine wpAnyH_ready (rs := [20]) (by kernel_rfl) (by simp) ?_
         refine AllReadyH.cons (o := { dst := some 4, op := Op.assign (Operand.tmp 165), type := 4, pos := "law.go:141", after := #[{ on := 19, ground := Ground.data }, { on := 18, ground := Ground.chain }, { on := 0, ground := Ground.phase }, { on := 1, ground := Ground.phase }, { on := 2, ground := Ground.phase }, { on := 3, ground := Ground.phase }, { on := 4, ground := Ground.phase }, { on := 5, ground := Ground.phase }, { on := 6, ground := Ground.phase }, { on := 7, ground := Ground.phase }, { on := 8, ground := Ground.phase }, { on := 9, ground := Ground.phase }, { on := 10, ground := Ground.phase }, { on := 11, ground := Ground.phase }, { on := 12, ground := Ground.phase }, { on := 13, ground := Ground.phase }, { on := 14, ground := Ground.phase }, { on := 15, ground := Ground.phase }, { on := 16, ground := Ground.phase }, { on := 17, ground := Ground.phase }, { on := 18, ground := Ground.phase }, { on := 19, ground := Ground.phase }], guard := none }) rfl (fun K hK => ?_) AllReadyH.nil
         go_simp
         refine hK.out _ _ (hHeld) (fun hHeld => ?_)
         clear hK K
         try simp only [Act.put, List.setIfInBounds_toArray, List.set_cons_zero, List.set_cons_succ]
         refine wpAnyH_done (by kernel_rfl) ?_ _
         go_wp2
         go_ret
         exact ⟨ret_bool (by first | rfl | simp), Gp.below _ (HP4.out _ hHeld.2.2.2)⟩
       ·
        have hz : (cc != 0) = true := by simpa using hcc
        obtain ⟨e0, e1⟩ := C.hn0 hcc
        obtain ⟨z0, z1⟩ := HZ9.out _ hP4
        subst e0; subst e1
        clear hcc
        go_wp2
        go_ret
        exact ⟨ret_bool (by first | rfl | simp), Gp.below _ (HP4.out _ hP4)⟩

set_option maxHeartbeats 8000000 in
set_option maxRecDepth 100000 in
theorem who_walk (t : Tms) (ht : t.ok) (l : List Chg) (A : Option Addr) (n c : Nat) (hn : l.length = n) (x0 x1 x2 : Int) (G : Array Value) (hG : G = (t.cells ++ [Value.slice A n c]).toArray)
 (hsz : ∀ s ∈ t.l0.b ++ t.l1.b, s.size ≤ 9223372036854775807) (hszl : ∀ d ∈ l, d.name.size ≤ 9223372036854775807) (w : World) (hl : RdC w A l)
 (haw : ∀ W, Below w.heap.size w W → Calls Tryz.prog 13 #[] W fun x w' => x = .returned (.bool true) ∧ Below W.heap.size W w') :
 Calls Tryz.prog 7 #[.agg G, .agg #[.int .i64 x0, .int .i64 x1, .int .i64 x2]] w fun x w' => x = .returned (.bool true) ∧ Below w.heap.size w w' := by
 obtain ⟨P, Gp, hP, hbx⟩ := gp_of2 t ht A n c G hG #[.int .i64 x0, .int .i64 x1, .int .i64 x2] 72 w
 by_cases hsh : shortL t l = true
 ·
  have hn66 : n ≤ 66 := by
   have := (short_parts hsh).1
   rw [hn] at this
   unfold shortN at this
   simp at this; omega
  exact who_main P w t.cells _ A n c x0 x1 x2 l _ _ _ _ _ _ _ _ Gp (tc_of t ht) (tc_of _ (atR_ok t ht l x0)) (who_facts P w t ht l A n c hn x0 x1 x2 hn66 hsz hszl hl haw Gp hbx hsh) G hP
 ·
  have hsh' : shortL t l = false := by simpa using hsh
  have H21 : ∀ W, P W → Calls Tryz.prog 21 #[.agg (t.cells ++ [Value.slice A n c]).toArray] W fun x w' => x = .returned (.bool false) ∧ Below W.heap.size W w' := fun W h => by
   have := short_any t ht _ l A n c rfl hn W (hl.below (Gp.below _ h))
   rw [hsh'] at this; exact this
  have Haw : ∀ W, P W → Calls Tryz.prog 13 #[] W fun x w' => x = .returned (.bool true) ∧ Below W.heap.size W w' := fun W h => haw W (Gp.below _ h)
  have hgr := Gp.rg
  have hi49 := Gp.i49
  have Hgr := Lib.hid hgr; have Hi49 := Lib.hid hi49; have H21' := Lib.hid H21; have Haw' := Lib.hid Haw
  clear hsh hsh' hG ht hn hsz hszl hl haw hbx H21 Haw hgr hi49
  generalize (t.cells ++ [Value.slice A n c]) = gc at Hgr Hi49 H21'
  go_enter Tryz.func7, Tryz.ntmps7
  go_upto_region 1 with fail
  generalize ((w.alloc (.cells G 49)).alloc (.cells #[.int .i64 x0, .int .i64 x1, .int .i64 x2] 72)) = W0 at hP ⊢
  go_wp2_with (first
   | (go_at_call 13; refine (Haw'.out _ hP).mono ?_; rintro e w1 ⟨rfl, hb1⟩; have hP1 := Gp.kp _ _ hP hb1)
   | (refine wpList_load_cells_g 49 _ rfl w.heap.size 0 rfl gc (fun j hj => by rw [List.getElem?_eq_getElem hj]; exact Hgr.out _ hP1 j _ (List.getElem?_eq_getElem hj)) _ Tryz.underlying49 rfl Hi49.out rfl ?_)
   | (go_at_call 21; refine (H21'.out _ hP1).mono ?_; rintro e w2 ⟨rfl, hb2⟩; have hP2 := Gp.kp _ _ hP1 hb2))
  refine (Haw'.out _ hP2).mono ?_
  rintro e w3 ⟨rfl, hb3⟩
  go_wp2
  go_ret
  exact ⟨rfl, Gp.below _ (Gp.kp _ _ hP2 hb3)⟩
end Go.Proofs.YtmagppkclnebjaaGreatDoor
