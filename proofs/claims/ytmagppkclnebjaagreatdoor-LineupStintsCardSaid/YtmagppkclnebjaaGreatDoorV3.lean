/- dugoutlaw03.LineupStints: it returns true at every game, number of plays and side. -/
import Derived.Test.YtmagppkclnebjaaGreatDoorV2
import Derived.Test.YtmagppkclnebjaaGreatDoorH4
import Derived.Test.YtmagppkclnebjaaGreatDoorD7
import Derived.Test.YtmagppkclnebjaaGreatDoorB9
import Derived.Deep.Cut
import Derived.Deep.CutRange
import Derived.BigQuiet
set_option linter.unusedVariables false
set_option linter.unusedSimpArgs false
set_option linter.unusedSimpArgs false
set_option linter.unusedVariables false
namespace Go.Proofs.YtmagppkclnebjaaGreatDoor
open Go.RowKit
open L

/-- what the callees of LineupStints do, in the worlds of its walk -/
structure StiC (P : World → Prop) (tc : List Value) (A : Option Addr) (n c : Nat) (x side : Int) (l : List Chg) (cc bad two : Int) (S0 S1 : List Sti) (m0 m1 : Nat) : Prop where
 h13 : ∀ W, P W → Calls Tryz.prog 13 #[] W fun x w' => x = .returned (.bool true) ∧ Below W.heap.size W w'
 h21 : ∀ W, P W → Calls Tryz.prog 21 #[.agg (tc ++ [Value.slice A n c]).toArray] W fun x w' => x = .returned (.bool true) ∧ Below W.heap.size W w'
 h23 : ∀ W, Calls Tryz.prog 23 #[.agg tc.toArray] W fun x w' => x = .returned (.agg tc.toArray) ∧ Below W.heap.size W w'
 h24 : ∀ W, P W → Calls Tryz.prog 24 #[.slice A n c] W fun x w' => (∃ B d, x = .returned (.slice B n d) ∧ RdC w' B l ∧ ∀ a, B = some a → W.heap.size ≤ a.block ∧ a.block < w'.heap.size) ∧ Below W.heap.size W w'
 h44 : ∀ W B d, RdC W B l → Calls Tryz.prog 44 #[.agg tc.toArray, .slice B n d, .int .i64 x] W fun x w' => (∃ B0 c0, x = .returned (.tuple #[.slice B0 m0 c0, .int .i64 bad]) ∧ RdS w' B0 S0) ∧ Below W.heap.size W w'
 h45 : ∀ W B d, RdC W B l → Calls Tryz.prog 45 #[.agg tc.toArray, .slice B n d, .int .i64 x, .int .i64 side] W fun x w' => (∃ B0 c0, x = .returned (.tuple #[.slice B0 m1 c0, .int .i64 two]) ∧ RdS w' B0 S1) ∧ Below W.heap.size W w'
 h26 : ∀ W, P W → Calls Tryz.prog 26 #[.agg tc.toArray, .slice A n c] W fun x w' => x = .returned (.int .i64 cc) ∧ Below W.heap.size W w'
 h46 : bad = 0 → ∀ W, P W → Calls Tryz.prog 46 #[.agg tc.toArray, .slice A n c, .int .i64 x] W fun x w' => (∃ B0 c0, x = .returned (.slice B0 m0 c0) ∧ RdS w' B0 S0) ∧ Below W.heap.size W w'
 h47 : two = 0 → ∀ W, P W → Calls Tryz.prog 47 #[.agg tc.toArray, .slice A n c, .int .i64 x, .int .i64 side] W fun x w' => (∃ B0 c0, x = .returned (.slice B0 m1 c0) ∧ RdS w' B0 S1) ∧ Below W.heap.size W w'
 hm0 : bad ≠ 0 → m0 = 0
 hm1 : two ≠ 0 → m1 = 0
 hl : S0.length = m0 ∧ S1.length = m1 ∧ m0 ≤ 100000 ∧ m1 ≤ 100000
 hbad : firstE [cc, withinE x 0 256] = bad
 htwo : sideE bad side = two

theorem rds_nil (W : World) (A : Option Addr) : RdS W A [] := fun k hk => absurd hk (by simp)
theorem slotsR_len (t : Tms) (l : List Chg) (N sd : Nat) : ∀ j, (slotsR t l N sd j).length ≤ j * N
 | 0 => Nat.zero_le _
 | j + 1 => by
  rw [slotsR_succ, List.length_append, Nat.succ_mul]
  have := refSt_len (hA t l sd ((j : Int) + 1)) sd ((j : Int) + 1) N
  have := slotsR_len t l N sd j
  omega
theorem sidesR_len (t : Tms) (l : List Chg) (N : Nat) (hN : N ≤ 1000) : (sidesR t l N 2).length ≤ 18000 := by
 rw [sidesR_succ, sidesR_succ, List.length_append, List.length_append]
 have h0 := slotsR_len t l N 0 9
 have h1 := slotsR_len t l N 1 9
 have : (sidesR t l N 0).length = 0 := rfl
 omega

theorem sorted_few (m : Nat) : ∀ (S : List Sti) (a : Nat), S.Pairwise (fun x y => x.fr < y.fr) → (∀ s ∈ S, ∃ k : Nat, a ≤ k ∧ k < m ∧ s.fr = (k : Int)) → S.length ≤ m - a
 | [], _, _, _ => Nat.zero_le _
 | s :: r, a, hp, hs => by
  rw [List.pairwise_cons] at hp
  obtain ⟨k, h1, h2, h3⟩ := hs s (by simp)
  have := sorted_few m r (k + 1) hp.2 fun y hy => by
   obtain ⟨q, g1, g2, g3⟩ := hs y (List.mem_cons_of_mem _ hy)
   have := hp.1 y hy
   exact ⟨q, by omega, g2, g3⟩
  rw [List.length_cons]
  omega

theorem sti_facts (P : World → Prop) (w : World) (t : Tms) (ht : t.ok) (l : List Chg) (A : Option Addr) (n c : Nat) (hn : l.length = n) (x side : Int) (hle : n ≤ 8 ∨ (64 < n ∧ n ≤ 66)) (h20 : x ≤ 20 ∨ 256 < x) (hsz : ∀ s ∈ t.l0.b ++ t.l1.b, s.size ≤ 9223372036854775807) (hszl : ∀ d ∈ l, d.name.size ≤ 9223372036854775807) (hl : RdC w A l)
 (haw : ∀ W, Below w.heap.size w W → Calls Tryz.prog 13 #[] W fun x w' => x = .returned (.bool true) ∧ Below W.heap.size W w') (Gp : GP w t.cells A n c 1 P) (hsh : shortL t l = true) :
 ∃ (S0 S1 : List Sti), StiC P t.cells A n c x side l (checkChanges t l) (firstE [checkChanges t l, withinE x 0 256]) (sideE (firstE [checkChanges t l, withinE x 0 256]) side) S0 S1 S0.length S1.length := by
 have hlW : ∀ W, P W → RdC W A l := fun W h => hl.below (Gp.below _ h)
 have valid : firstE [checkChanges t l, withinE x 0 256] = 0 → checkChanges t l = 0 ∧ n ≤ 8 ∧ ∃ N : Nat, x = (N : Int) ∧ N ≤ 20 := fun h => by
  obtain ⟨h0, h1⟩ := firstE2 h
  have h64 := (cc_parts h0).2.1
  have := withinE_zero h1
  rw [hn] at h64
  exact ⟨h0, by omega, x.toNat, by omega, by omega⟩
 have two0 : sideE (firstE [checkChanges t l, withinE x 0 256]) side = 0 → firstE [checkChanges t l, withinE x 0 256] = 0 ∧ (side = 0 ∨ side = 1) := fun h => by
  rw [← err2] at h
  obtain ⟨h0, h1, h2⟩ := firstE3 h
  exact ⟨by rw [h0, h1]; rfl, sidedE_zero h2⟩
 refine ⟨(stintsR t l x).1, if sideE (firstE [checkChanges t l, withinE x 0 256]) side = 0 then pitRef (allL t l x) side x.toNat else [], ?_⟩
 refine { h13 := fun W h => haw W (Gp.below _ h), h21 := ?_, h23 := fun W => given_any t ht _ rfl W, h24 := fun W h => list_any l A n c hn (by omega) W (hlW W h), h44 := ?_, h45 := ?_, h26 := fun W h => refCheck_any t ht _ rfl l A n c hn (by omega) hsz hszl W (hlW W h), h46 := ?_, h47 := ?_, hm0 := ?_, hm1 := ?_, hl := ?_, hbad := rfl, htwo := rfl }
 ·
  intro W h
  have := short_any t ht _ l A n c rfl hn W (hlW W h)
  rw [hsh] at this; exact this
 ·
  intro W B d h
  refine (stintsAll_any t ht _ rfl l B n d hn x W h).mono fun y w' ⟨⟨v, e, hv⟩, hb⟩ => ?_
  obtain ⟨hx, B0, c0, rfl, hr0⟩ := hv
  refine ⟨⟨B0, c0, ?_, RdS.of_slk ⟨hx, B0, c0, rfl, hr0⟩⟩, hb⟩
  rw [e]
  congr 5
  unfold stintsR
  split
  ·
   rfl
  ·
   rename_i h0; simp [ccIdx] at h0; rw [h0]
 ·
  intro W B d h
  refine (pitchers_any t ht _ rfl l B n d hn x side W h (fun h0 => ?_)).mono fun y w' ⟨⟨A', m, c', S', e, hS, hr, hp0, hp1⟩, hb⟩ => ?_
  ·
   have h1 : sideE (firstE [checkChanges t l, withinE x 0 256]) side = 0 := by rw [← err2]; exact h0
   obtain ⟨h2, hs⟩ := two0 h1
   obtain ⟨hc, h8, N, rfl, _⟩ := valid h2
   have := pit_few ht hc side hs N
   omega
  ·
   have hE : pitE t l x side = sideE (firstE [checkChanges t l, withinE x 0 256]) side := by unfold pitE; exact err2 _ _ _
   have hS' : S' = if sideE (firstE [checkChanges t l, withinE x 0 256]) side = 0 then pitRef (allL t l x) side x.toNat else [] := by
    by_cases h1 : sideE (firstE [checkChanges t l, withinE x 0 256]) side = 0
    ·
     rw [if_pos h1]
     obtain ⟨h2, hs⟩ := two0 h1
     obtain ⟨hc, h8, N, rfl, _⟩ := valid h2
     obtain ⟨q1, q2⟩ := hp0 (hE.trans h1)
     exact pitchers_eq ht hc side N S' q1 q2
    ·
     rw [if_neg h1]
     exact hp1 (by rw [hE]; exact h1)
   rw [← hS', hS]
   exact ⟨⟨A', c', by rw [e, hE], hr⟩, hb⟩
 ·
  intro h0 W h
  obtain ⟨hc, h8, N, rfl, hN⟩ := valid h0
  have e : (stintsR t l N).1 = sidesR t l N 2 := by
   unfold stintsR
   rw [if_neg (show ¬ ccIdx t l N ≠ 0 by unfold ccIdx; rw [h0]; simp), sidesR_eq ht hc]
  rw [e]
  refine (refStints_any t ht _ rfl l A n c hn (by omega) (okS_all hc) N (by omega) W (hlW W h)).mono fun y w' ⟨⟨v, e, hv⟩, hb⟩ => ?_
  obtain ⟨hx, B0, c0, rfl, hr0⟩ := hv
  exact ⟨⟨B0, c0, e, RdS.of_slk ⟨hx, B0, c0, rfl, hr0⟩⟩, hb⟩
 ·
  intro h1 W h
  obtain ⟨h2, hs⟩ := two0 h1
  obtain ⟨hc, h8, N, rfl, hN⟩ := valid h2
  rw [if_pos h1]
  refine (refPitchers_any t ht _ rfl l A n c hn (by omega) (okS_all hc) N (by omega) side W (hlW W h) (allL t l N) (sidesR_eq ht hc N) (by rw [← sidesR_eq ht hc N]; exact sidesR_len t l N (by omega))).mono fun y w' ⟨⟨v, e, hv⟩, hb⟩ => ?_
  obtain ⟨hx, B0, c0, rfl, hr0⟩ := hv
  exact ⟨⟨B0, c0, e, RdS.of_slk ⟨hx, B0, c0, rfl, hr0⟩⟩, hb⟩
 ·
  intro h0
  unfold stintsR
  rw [if_pos (show ccIdx t l x ≠ 0 from h0)]; rfl
 ·
  intro h0
  rw [if_neg h0]; rfl
 ·
  refine ⟨rfl, rfl, ?_, ?_⟩
  ·
   by_cases h0 : firstE [checkChanges t l, withinE x 0 256] = 0
   ·
    obtain ⟨hc, h8, N, rfl, hN⟩ := valid h0
    unfold stintsR
    rw [if_neg (show ¬ ccIdx t l N ≠ 0 by unfold ccIdx; rw [h0]; simp)]
    have := sidesR_len t l N (by omega)
    rw [sidesR_eq ht hc] at this
    show (allL t l N).length ≤ 100000
    omega
   ·
    unfold stintsR
    rw [if_pos (show ccIdx t l x ≠ 0 from h0)]; exact Nat.zero_le _
  ·
   by_cases h1 : sideE (firstE [checkChanges t l, withinE x 0 256]) side = 0
   ·
    rw [if_pos h1]
    obtain ⟨h2, hs⟩ := two0 h1
    obtain ⟨hc, h8, N, rfl, hN⟩ := valid h2
    have h9 := pit_sorted ht hc side N
    have hsub : ∀ s ∈ pitRef (allL t l N) side N, ∃ k : Nat, k < 20 ∧ s.fr = (k : Int) := fun s hs => by
     unfold pitRef at hs
     obtain ⟨p, hp, hs⟩ := List.mem_flatMap.1 hs
     rw [List.mem_filter] at hs
     simp only [Bool.and_eq_true, beq_iff_eq] at hs
     exact ⟨p, by have := List.mem_range.1 hp; omega, hs.2.2⟩
    show (pitRef (allL t l N) side N).length ≤ 100000
    have h5 := sorted_few 20 _ 0 h9 fun s hs => by
     obtain ⟨k, hk, e⟩ := hsub s hs
     exact ⟨k, Nat.zero_le _, hk, e⟩
    omega
   ·
    rw [if_neg h1]; exact Nat.zero_le _

set_option maxHeartbeats 8000000 in
set_option maxRecDepth 100000 in
theorem sti_main (P : World → Prop) (w : World) (tc : List Value) (A : Option Addr) (n c : Nat) (x side : Int) (l : List Chg) (cc bad two : Int) (S0 S1 : List Sti) (m0 m1 : Nat)
 (Gp : GP w tc A n c 1 P) (Gt : TC tc) (C : StiC P tc A n c x side l cc bad two S0 S1 m0 m1) (h20 : x ≤ 20 ∨ 256 < x) (G : Array Value) (hP : P (w.alloc (.cells G 49))) :
 Calls Tryz.prog 8 #[.agg G, .int .i64 x, .int .i64 side] w fun x w' => x = .returned (.bool true) ∧ Below w.heap.size w w' := by
 go_enter Tryz.func8, Tryz.ntmps8
 go_upto_region 1 with fail
 generalize (w.alloc (.cells G 49)) = W0 at hP ⊢
 go_cut [29] from 15 (fun s29 wr => s29 = .bool false ∧ P wr)
 case first =>
  have hgr := Gp.rg
  have hi49 := Gp.i49
  have h21 := C.h21
  generalize (tc ++ [Value.slice A n c]) = gc at hgr hi49 h21
  rcases h20 with h20 | h20
  ·
   have a1 : ¬ (20 : Int) < x := by omega
   have b1 : decide ((20 : Int) < x) = false := decide_eq_false a1
   clear h20
   go_wp2_with (first
    | (go_at_call 13; refine (C.h13 _ hP).mono ?_; rintro e w1 ⟨rfl, hb1⟩; have hP1 := Gp.kp _ _ hP hb1)
    | (refine wpList_load_cells_g 49 _ rfl w.heap.size 0 rfl gc (fun j hj => by rw [List.getElem?_eq_getElem hj]; exact hgr _ hP1 j _ (List.getElem?_eq_getElem hj)) _ Tryz.underlying49 rfl hi49 rfl ?_)
    | (go_at_call 21; refine (h21 _ hP1).mono ?_; rintro e w2 ⟨rfl, hb2⟩; have hP2 := Gp.kp _ _ hP1 hb2))
   go_meet
   exact ⟨by first | rfl | simp, hP2⟩
  ·
   have a1 : (20 : Int) < x := by omega
   have b1 : decide ((20 : Int) < x) = true := decide_eq_true a1
   have a2 : ¬ x ≤ 256 := by omega
   have b2 : decide (x ≤ 256) = false := decide_eq_false a2
   clear h20
   go_wp2_with (first
    | (go_at_call 13; refine (C.h13 _ hP).mono ?_; rintro e w1 ⟨rfl, hb1⟩; have hP1 := Gp.kp _ _ hP hb1)
    | (refine wpList_load_cells_g 49 _ rfl w.heap.size 0 rfl gc (fun j hj => by rw [List.getElem?_eq_getElem hj]; exact hgr _ hP1 j _ (List.getElem?_eq_getElem hj)) _ Tryz.underlying49 rfl hi49 rfl ?_)
    | (go_at_call 21; refine (h21 _ hP1).mono ?_; rintro e w2 ⟨rfl, hb2⟩; have hP2 := Gp.kp _ _ hP1 hb2))
   go_meet
   exact ⟨by first | rfl | simp, hP2⟩
 case rest =>
  obtain ⟨rfl, hPc⟩ := hcut
  clear hP h20
  revert hPc
  generalize wc = W0
  intro hP
  go_upto_region 3 with fail
  go_cut [7, 8] from 15 (fun s7 s8 wr => ∃ B d, s7 = .slice B m0 d ∧ s8 = .int .i64 bad ∧ P wr ∧ RdS wr B S0)
  case first =>
   as_aux_lemma =>
    have HS : Hid (∀ X, P X → X.cell? ⟨w.heap.size, 36, none⟩ = some (.slice A n c) ∧ P X) := fun X h => ⟨Gp.c36 _ h, h⟩
    have HG : Hid (∀ X, P X → X.rangeAt w.heap.size 0 tc) := fun X h => Gp.r _ h
    have HQ : Hid (∀ X, P X → P X) := fun X h => h
    have kQ := Gp.kp
    have hS0 := HS.out _ (kQ _ _ hP (bt_drew (Below.refl _ W0)))
    refine wp_region_held_drew (S := (fun X => X.cell? ⟨w.heap.size, 36, none⟩ = some (.slice A n c) ∧ P X)) (by kernel_rfl) (hS0) (fun hHeld => ?_)
    refine tkD (i := 0) (oi := { dst := some 32, op := Op.fieldAddr 49 (Operand.tmp 3) 0, type := 0, pos := "law.go:188", after := #[], guard := none }) rfl ?_
    try simp only [Act.put, s1D, s2D, s3D]
    refine' wpAnyH_take (i := 1) (oi := { dst := some 33, op := Op.load 46 (Operand.tmp 32), type := 46, pos := "law.go:188", after := #[{ on := 0, ground := Ground.data }], guard := none }) (v := _) rfl (by kernel_rfl) (by kernel_rfl) (by kernel_rfl) (fun _ _ _ h => h) (yieldsIf_load_mid (by kernel_rfl) _ _ rfl _ _ rfl (tc) _ (fun W h => HG.out W h.2) Tryz.underlying46 rfl (Gt.l46)) (by assumption) ?rest2
    try simp only [Act.put, s1D, s2D, s3D]
    refine tkD (i := 3) (oi := { dst := some 35, op := Op.fieldAddr 49 (Operand.tmp 3) 1, type := 0, pos := "law.go:188", after := #[], guard := none }) rfl ?_
    try simp only [Act.put, s1D, s2D, s3D]
    refine tkD (i := 4) (oi := { dst := some 36, op := Op.load 47 (Operand.tmp 35), type := 47, pos := "law.go:188", after := #[{ on := 3, ground := Ground.data }], guard := none }) rfl ?_
    try simp only [Act.put, s1D, s2D, s3D]
    refine tkD (i := 6) (oi := { dst := some 38, op := Op.move (Operand.tmp 1), type := 3, pos := "law.go:188", after := #[], guard := none }) rfl ?_
    try simp only [Act.put, s1D, s2D, s3D]
    refine wpAnyH_ready (rs := [2]) (by kernel_rfl) (by simp) ?_
    refine AllReadyH.cons (o := { dst := some 34, op := Op.call { callee := Callee.value (Operand.func 23), args := #[Operand.tmp 33], argTypes := #[46] }, type := 54, pos := "law.go:188", after := #[{ on := 1, ground := Ground.data }], guard := none }) rfl (fun K hK => ?_) AllReadyH.nil
    go_simp
    go_at_call 23
    refine (C.h23 _).mono ?_
    rintro e w2 ⟨rfl, hb2⟩
    go_wp2_with fail
    have hP2 := kQ _ _ hHeld.2 hb2
    refine hK.out _ _ (HS.out _ hP2) (fun hHeld => ?_)
    clear hK K hb2 hS0
    try simp only [Act.put, s1D, s2D, s3D]
    refine wpAnyH_ready (rs := [5]) (by kernel_rfl) (by simp) ?_
    refine AllReadyH.cons (o := { dst := some 37, op := Op.call { callee := Callee.value (Operand.func 24), args := #[Operand.tmp 36], argTypes := #[47] }, type := 56, pos := "law.go:188", after := #[{ on := 4, ground := Ground.data }, { on := 2, ground := Ground.chain }], guard := none }) rfl (fun K hK => ?_) AllReadyH.nil
    go_simp
    go_at_call 24
    refine (C.h24 _ (HQ.out _ hHeld.2)).mono ?_
    rintro e w3 ⟨⟨B, d, rfl, hr3, hge3⟩, hb3⟩
    go_wp2_with fail
    have hP3 := kQ _ _ hHeld.2 hb3
    refine hK.out _ _ (HS.out _ hP3) (fun hHeld => ?_)
    clear hK K hge3
    try simp only [Act.put, s1D, s2D, s3D]
    refine wpAnyH_ready (rs := [7]) (by kernel_rfl) (by simp) ?_
    refine AllReadyH.cons (o := { dst := some 39, op := Op.call { callee := Callee.value (Operand.func 44), args := #[Operand.tmp 34, Operand.tmp 37, Operand.tmp 38], argTypes := #[54, 56, 3] }, type := 87, pos := "law.go:188", after := #[{ on := 2, ground := Ground.data }, { on := 5, ground := Ground.data }, { on := 6, ground := Ground.data }, { on := 5, ground := Ground.chain }], guard := none }) rfl (fun K hK => ?_) AllReadyH.nil
    go_simp
    go_at_call 44
    refine (C.h44 _ _ _ hr3).mono ?_
    rintro e w4 ⟨⟨B0, d0, rfl, hr0⟩, hb4⟩
    go_wp2_with fail
    have hP4 := kQ _ _ hHeld.2 hb4
    refine hK.out _ _ (HS.out _ hP4) (fun hHeld => ?_)
    clear hK K
    try simp only [Act.put, s1D, s2D, s3D]
    refine tkD (i := 8) (oi := { dst := some 31, op := Op.move (Operand.tmp 39), type := 87, pos := "law.go:188", after := #[{ on := 7, ground := Ground.data }], guard := none }) rfl ?_
    try simp only [Act.put, s1D, s2D, s3D]
    refine tkD (i := 9) (oi := { dst := some 40, op := Op.extract (Operand.tmp 31) 0, type := 86, pos := "law.go:188", after := #[{ on := 8, ground := Ground.data }], guard := none }) rfl ?_
    try simp only [Act.put, s1D, s2D, s3D]
    refine tkD (i := 10) (oi := { dst := some 41, op := Op.extract (Operand.tmp 31) 1, type := 30, pos := "law.go:188", after := #[{ on := 8, ground := Ground.data }, { on := 11, ground := Ground.gcOnly Departure.lateStores }], guard := none }) rfl ?_
    try simp only [Act.put, s1D, s2D, s3D]
    refine tkD (i := 11) (oi := { dst := some 7, op := Op.assign (Operand.tmp 40), type := 86, pos := "law.go:188", after := #[{ on := 9, ground := Ground.data }, { on := 7, ground := Ground.chain }, { on := 0, ground := Ground.phase }, { on := 1, ground := Ground.phase }, { on := 2, ground := Ground.phase }, { on := 3, ground := Ground.phase }, { on := 4, ground := Ground.phase }, { on := 5, ground := Ground.phase }, { on := 6, ground := Ground.phase }, { on := 7, ground := Ground.phase }, { on := 8, ground := Ground.phase }, { on := 9, ground := Ground.phase }, { on := 10, ground := Ground.textOnly Departure.lateStores }], guard := none }) rfl ?_
    try simp only [Act.put, s1D, s2D, s3D]
    refine tkD (i := 12) (oi := { dst := some 8, op := Op.assign (Operand.tmp 41), type := 30, pos := "law.go:188", after := #[{ on := 10, ground := Ground.data }, { on := 11, ground := Ground.chain }, { on := 0, ground := Ground.phase }, { on := 1, ground := Ground.phase }, { on := 2, ground := Ground.phase }, { on := 3, ground := Ground.phase }, { on := 4, ground := Ground.phase }, { on := 5, ground := Ground.phase }, { on := 6, ground := Ground.phase }, { on := 7, ground := Ground.phase }, { on := 8, ground := Ground.phase }, { on := 9, ground := Ground.phase }, { on := 10, ground := Ground.phase }, { on := 11, ground := Ground.phase }], guard := none }) rfl ?_
    try simp only [Act.put, s1D, s2D, s3D]
    refine wpAnyH_done (by kernel_rfl) ?_ _
    go_wp2_with fail
    go_meet
    exact ⟨B0, d0, rfl, rfl, hHeld.2, hr0⟩
  case rest =>
   obtain ⟨B0, d0, rfl, rfl, hPc, hr0⟩ := hcut
   obtain ⟨P1, kP1, hP1, oP1⟩ : ∃ P1 : World → Prop, Keep P1 ∧ P1 wc ∧ Hid (∀ X, P1 X → P X ∧ RdS X B0 S0) := ⟨fun X => P X ∧ RdS X B0 S0, keep_and Gp.kp (keep_rds _ _), ⟨hPc, hr0⟩, fun _ h => h⟩
   clear hPc hr0 hP
   generalize wc = W1 at hP1 ⊢
   go_upto_region 4 with fail
   go_cut [9, 10] from 15 (fun s7 s8 wr => ∃ B d, s7 = .slice B m1 d ∧ s8 = .int .i64 two ∧ P1 wr ∧ RdS wr B S1)
   case first =>
    as_aux_lemma =>
     have HS : Hid (∀ X, P1 X → X.cell? ⟨w.heap.size, 36, none⟩ = some (.slice A n c) ∧ P1 X) := fun X h => ⟨Gp.c36 _ (oP1.out _ h).1, h⟩
     have HG : Hid (∀ X, P1 X → X.rangeAt w.heap.size 0 tc) := fun X h => Gp.r _ (oP1.out _ h).1
     have HQ : Hid (∀ X, P1 X → P X) := fun X h => (oP1.out _ h).1
     have kQ := kP1
     have hS0 := HS.out _ (kQ _ _ hP1 (bt_drew (Below.refl _ W1)))
     refine wp_region_held_drew (S := (fun X => X.cell? ⟨w.heap.size, 36, none⟩ = some (.slice A n c) ∧ P1 X)) (by kernel_rfl) (hS0) (fun hHeld => ?_)
     refine tkD (i := 0) (oi := { dst := some 43, op := Op.fieldAddr 49 (Operand.tmp 3) 0, type := 0, pos := "law.go:189", after := #[], guard := none }) rfl ?_
     try simp only [Act.put, s1D, s2D, s3D]
     refine' wpAnyH_take (i := 1) (oi := { dst := some 44, op := Op.load 46 (Operand.tmp 43), type := 46, pos := "law.go:189", after := #[{ on := 0, ground := Ground.data }], guard := none }) (v := _) rfl (by kernel_rfl) (by kernel_rfl) (by kernel_rfl) (fun _ _ _ h => h) (yieldsIf_load_mid (by kernel_rfl) _ _ rfl _ _ rfl (tc) _ (fun W h => HG.out W h.2) Tryz.underlying46 rfl (Gt.l46)) (by assumption) ?rest12
     try simp only [Act.put, s1D, s2D, s3D]
     refine tkD (i := 3) (oi := { dst := some 46, op := Op.fieldAddr 49 (Operand.tmp 3) 1, type := 0, pos := "law.go:189", after := #[], guard := none }) rfl ?_
     try simp only [Act.put, s1D, s2D, s3D]
     refine tkD (i := 4) (oi := { dst := some 47, op := Op.load 47 (Operand.tmp 46), type := 47, pos := "law.go:189", after := #[{ on := 3, ground := Ground.data }], guard := none }) rfl ?_
     try simp only [Act.put, s1D, s2D, s3D]
     refine tkD (i := 6) (oi := { dst := some 49, op := Op.move (Operand.tmp 1), type := 3, pos := "law.go:189", after := #[], guard := none }) rfl ?_
     try simp only [Act.put, s1D, s2D, s3D]
     refine tkD (i := 7) (oi := { dst := some 50, op := Op.move (Operand.tmp 2), type := 3, pos := "law.go:189", after := #[], guard := none }) rfl ?_
     try simp only [Act.put, s1D, s2D, s3D]
     refine wpAnyH_ready (rs := [2]) (by kernel_rfl) (by simp) ?_
     refine AllReadyH.cons (o := { dst := some 45, op := Op.call { callee := Callee.value (Operand.func 23), args := #[Operand.tmp 44], argTypes := #[46] }, type := 54, pos := "law.go:189", after := #[{ on := 1, ground := Ground.data }], guard := none }) rfl (fun K hK => ?_) AllReadyH.nil
     go_simp
     go_at_call 23
     refine (C.h23 _).mono ?_
     rintro e w2 ⟨rfl, hb2⟩
     go_wp2_with fail
     have hP2 := kQ _ _ hHeld.2 hb2
     refine hK.out _ _ (HS.out _ hP2) (fun hHeld => ?_)
     clear hK K hb2 hS0
     try simp only [Act.put, s1D, s2D, s3D]
     refine wpAnyH_ready (rs := [5]) (by kernel_rfl) (by simp) ?_
     refine AllReadyH.cons (o := { dst := some 48, op := Op.call { callee := Callee.value (Operand.func 24), args := #[Operand.tmp 47], argTypes := #[47] }, type := 56, pos := "law.go:189", after := #[{ on := 4, ground := Ground.data }, { on := 2, ground := Ground.chain }], guard := none }) rfl (fun K hK => ?_) AllReadyH.nil
     go_simp
     go_at_call 24
     refine (C.h24 _ (HQ.out _ hHeld.2)).mono ?_
     rintro e w3 ⟨⟨B, d, rfl, hr3, hge3⟩, hb3⟩
     go_wp2_with fail
     have hP3 := kQ _ _ hHeld.2 hb3
     refine hK.out _ _ (HS.out _ hP3) (fun hHeld => ?_)
     clear hK K hge3
     try simp only [Act.put, s1D, s2D, s3D]
     refine wpAnyH_ready (rs := [8]) (by kernel_rfl) (by simp) ?_
     refine AllReadyH.cons (o := { dst := some 51, op := Op.call { callee := Callee.value (Operand.func 45), args := #[Operand.tmp 45, Operand.tmp 48, Operand.tmp 49, Operand.tmp 50], argTypes := #[54, 56, 3, 3] }, type := 87, pos := "law.go:189", after := #[{ on := 2, ground := Ground.data }, { on := 5, ground := Ground.data }, { on := 6, ground := Ground.data }, { on := 7, ground := Ground.data }, { on := 5, ground := Ground.chain }], guard := none }) rfl (fun K hK => ?_) AllReadyH.nil
     go_simp
     go_at_call 45
     refine (C.h45 _ _ _ hr3).mono ?_
     rintro e w4 ⟨⟨B0, d0, rfl, hr0⟩, hb4⟩
     go_wp2_with fail
     have hP4 := kQ _ _ hHeld.2 hb4
     refine hK.out _ _ (HS.out _ hP4) (fun hHeld => ?_)
     clear hK K
     try simp only [Act.put, s1D, s2D, s3D]
     refine tkD (i := 9) (oi := { dst := some 42, op := Op.move (Operand.tmp 51), type := 87, pos := "law.go:189", after := #[{ on := 8, ground := Ground.data }], guard := none }) rfl ?_
     try simp only [Act.put, s1D, s2D, s3D]
     refine tkD (i := 10) (oi := { dst := some 52, op := Op.extract (Operand.tmp 42) 0, type := 86, pos := "law.go:189", after := #[{ on := 9, ground := Ground.data }], guard := none }) rfl ?_
     try simp only [Act.put, s1D, s2D, s3D]
     refine tkD (i := 11) (oi := { dst := some 53, op := Op.extract (Operand.tmp 42) 1, type := 30, pos := "law.go:189", after := #[{ on := 9, ground := Ground.data }, { on := 12, ground := Ground.gcOnly Departure.lateStores }], guard := none }) rfl ?_
     try simp only [Act.put, s1D, s2D, s3D]
     refine tkD (i := 12) (oi := { dst := some 9, op := Op.assign (Operand.tmp 52), type := 86, pos := "law.go:189", after := #[{ on := 10, ground := Ground.data }, { on := 8, ground := Ground.chain }, { on := 0, ground := Ground.phase }, { on := 1, ground := Ground.phase }, { on := 2, ground := Ground.phase }, { on := 3, ground := Ground.phase }, { on := 4, ground := Ground.phase }, { on := 5, ground := Ground.phase }, { on := 6, ground := Ground.phase }, { on := 7, ground := Ground.phase }, { on := 8, ground := Ground.phase }, { on := 9, ground := Ground.phase }, { on := 10, ground := Ground.phase }, { on := 11, ground := Ground.textOnly Departure.lateStores }], guard := none }) rfl ?_
     try simp only [Act.put, s1D, s2D, s3D]
     refine tkD (i := 13) (oi := { dst := some 10, op := Op.assign (Operand.tmp 53), type := 30, pos := "law.go:189", after := #[{ on := 11, ground := Ground.data }, { on := 12, ground := Ground.chain }, { on := 0, ground := Ground.phase }, { on := 1, ground := Ground.phase }, { on := 2, ground := Ground.phase }, { on := 3, ground := Ground.phase }, { on := 4, ground := Ground.phase }, { on := 5, ground := Ground.phase }, { on := 6, ground := Ground.phase }, { on := 7, ground := Ground.phase }, { on := 8, ground := Ground.phase }, { on := 9, ground := Ground.phase }, { on := 10, ground := Ground.phase }, { on := 11, ground := Ground.phase }, { on := 12, ground := Ground.phase }], guard := none }) rfl ?_
     try simp only [Act.put, s1D, s2D, s3D]
     refine wpAnyH_done (by kernel_rfl) ?_ _
     go_wp2_with fail
     go_meet
     exact ⟨B0, d0, rfl, rfl, hHeld.2, hr0⟩
   case rest =>
    obtain ⟨B1, d1, rfl, rfl, hPc, hr1⟩ := hcut
    obtain ⟨P2, kP2, hP2, oP2⟩ : ∃ P2 : World → Prop, Keep P2 ∧ P2 wc ∧ Hid (∀ X, P2 X → P X ∧ RdS X B0 S0 ∧ RdS X B1 S1) := ⟨fun X => P1 X ∧ RdS X B1 S1, keep_and kP1 (keep_rds _ _), ⟨hPc, hr1⟩, fun _ h => ⟨(oP1.out _ h.1).1, (oP1.out _ h.1).2, h.2⟩⟩
    clear hPc hr1 hP1 kP1 oP1
    generalize wc = W2 at hP2 ⊢
    have hP2' := (oP2.out _ hP2).1
    have c36 := Gp.c36 _ hP2'
    have hR := Gp.r _ hP2'
    go_upto_region 6 with (first
     | (refine wpList_load_cells rfl 46 _ rfl w.heap.size 0 rfl tc (fun j hj => by rw [List.getElem?_eq_getElem hj]; exact hR j _ (List.getElem?_eq_getElem hj)) _ Tryz.underlying46 rfl Gt.l46 ?_)
     | (go_at_call 26; refine (C.h26 _ hP2').mono ?_; rintro e w8 ⟨rfl, hb8⟩)
     | (go_at_call 39; refine (refRange_any _ _ _ _).mono ?_; rintro e w' ⟨rfl, rfl⟩)
     | (go_at_call 38; refine (lfirst2 _ _ _ _ _ _ (by exact heap_alloc_new _ _)).mono ?_; rintro e w' ⟨rfl, rfl⟩))
    have hPc := kP2 _ _ (kP2 _ _ hP2 hb8) (bt_new w8 (.cells #[.int .i64 cc, .int .i64 (withinE x 0 256)] 3))
    clear hP2' hb8 c36 hR hP2
    generalize (w8.alloc (.cells #[.int .i64 cc, .int .i64 (withinE x 0 256)] 3)) = W8 at hPc ⊢
    rw [C.hbad]
    go_upto_region 7 with fail
    go_cut [73] from 15 (fun s73 wr => s73 = .bool (decide (bad = 0 ∧ side ≠ 0 ∧ side ≠ 1)) ∧ wr = W8)
    case first =>
     by_cases h0 : bad = 0
     ·
      have hz : (bad == 0) = true := by simpa using h0
      by_cases h1 : side = 0
      ·
       have hz1 : (side != 0) = false := by simpa using h1
       have he : Hid (decide (bad = 0 ∧ side ≠ 0 ∧ side ≠ 1) = false) := by show _ = _; simp [h1]
       clear h0 h1
       go_wp2
       go_meet
       exact ⟨by rw [he.out], rfl⟩
      ·
       have hz1 : (side != 0) = true := by simpa using h1
       by_cases h2 : side = 1
       ·
        have hz2 : (side != 1) = false := by simpa using h2
        have he : Hid (decide (bad = 0 ∧ side ≠ 0 ∧ side ≠ 1) = false) := by show _ = _; simp [h2]
        clear h0 h1 h2
        go_wp2
        go_meet
        exact ⟨by rw [he.out], rfl⟩
       ·
        have hz2 : (side != 1) = true := by simpa using h2
        have he : Hid (decide (bad = 0 ∧ side ≠ 0 ∧ side ≠ 1) = true) := by show _ = _; simp [h0, h1, h2]
        clear h0 h1 h2
        go_wp2
        go_meet
        exact ⟨by rw [he.out], rfl⟩
     ·
      have hz : (bad == 0) = false := by simpa using h0
      have he : Hid (decide (bad = 0 ∧ side ≠ 0 ∧ side ≠ 1) = false) := by show _ = _; simp [h0]
      clear h0
      go_wp2
      go_meet
      exact ⟨by rw [he.out], rfl⟩
    case rest =>
    obtain ⟨rfl, hwc⟩ := hcut
    rw [hwc]
    clear hwc
    go_step
    go_cut [12] from 15 (fun s12 wr => s12 = .int .i64 two ∧ wr = W8)
    case first =>
     by_cases hq : bad = 0 ∧ side ≠ 0 ∧ side ≠ 1
     ·
      have he : Hid (two = 17) := by show _ = _; rw [← C.htwo]; unfold sideE; rw [if_pos hq]
      rw [decide_eq_true hq]
      clear hq
      go_wp2
      go_meet
      exact ⟨by rw [he.out], rfl⟩
     ·
      have he : Hid (two = bad) := by show _ = _; rw [← C.htwo]; unfold sideE; rw [if_neg hq]
      rw [decide_eq_false hq]
      clear hq
      go_wp2
      go_meet
      exact ⟨by rw [he.out], rfl⟩
    case rest =>
    obtain ⟨rfl, hwc⟩ := hcut
    rw [hwc]
    clear hwc
    go_upto_region 10 with fail
    go_cut [75] from 15 (fun s75 wr => s75 = .bool (bad == 0) ∧ wr = W8)
    case first =>
     go_wp2
     go_meet
     exact ⟨rfl, rfl⟩
    case rest =>
    obtain ⟨rfl, hwc⟩ := hcut
    rw [hwc]
    clear hwc
    go_step
    go_cut [13] from 15 (fun s13 wr => ∃ B d, s13 = .slice B m0 d ∧ P2 wr ∧ (bad = 0 → RdS wr B S0))
    case first =>
     by_cases h0 : bad = 0
     ·
      have hz : (bad == 0) = true := by simpa using h0
      have H46 := C.h46 h0
      have hP2' := (oP2.out _ hPc).1
      have c36 := Gp.c36 _ hP2'
      have hR := Gp.r _ hP2'
      clear h0
      go_wp2_with (first
       | (refine wpList_load_cells rfl 46 _ rfl w.heap.size 0 rfl tc (fun j hj => by rw [List.getElem?_eq_getElem hj]; exact hR j _ (List.getElem?_eq_getElem hj)) _ Tryz.underlying46 rfl Gt.l46 ?_)
       | (go_at_call 46; with_reducible refine (H46 _ hP2').mono ?_; rintro e w9 ⟨⟨D0, dd, rfl, hd0⟩, hb9⟩))
      go_meet
      exact ⟨D0, dd, rfl, kP2 _ _ hPc hb9, fun _ => hd0⟩
     ·
      have hz : (bad == 0) = false := by simpa using h0
      have hg := Lib.hid (C.hm0 h0)
      have hn0 := Lib.hid h0
      clear h0
      go_wp2
      go_meet
      exact ⟨none, 0, by rw [hg.out], hPc, fun h => absurd h hn0.out⟩
    case rest =>
    obtain ⟨D0, dd0, rfl, hPd, hrd0⟩ := hcut
    clear hPc
    have Hrd0 := Lib.hid hrd0
    clear hrd0
    obtain ⟨P3, kP3, hP3, oP3⟩ : ∃ P3 : World → Prop, Keep P3 ∧ P3 wc ∧ Hid (∀ X, P3 X → P2 X ∧ (bad = 0 → RdS X D0 S0)) := ⟨fun X => P2 X ∧ (bad = 0 → RdS X D0 S0), keep_and kP2 (fun _ _ h hb h0 => (h h0).below hb), ⟨hPd, Hrd0.out⟩, fun _ h => h⟩
    clear hPd Hrd0
    generalize wc = W9 at hP3 ⊢
    go_upto_region 12 with fail
    go_cut [83] from 15 (fun s83 wr => s83 = .bool (two == 0) ∧ wr = W9)
    case first =>
     go_wp2
     go_meet
     exact ⟨rfl, rfl⟩
    case rest =>
    obtain ⟨rfl, hwc⟩ := hcut
    rw [hwc]
    clear hwc
    go_step
    go_cut [14] from 15 (fun s14 wr => ∃ B d, s14 = .slice B m1 d ∧ P3 wr ∧ (two = 0 → RdS wr B S1))
    case first =>
     by_cases h0 : two = 0
     ·
      have hz : (two == 0) = true := by simpa using h0
      have H47 := C.h47 h0
      have hP2' := (oP2.out _ (oP3.out _ hP3).1).1
      have c36 := Gp.c36 _ hP2'
      have hR := Gp.r _ hP2'
      clear h0
      go_wp2_with (first
       | (refine wpList_load_cells rfl 46 _ rfl w.heap.size 0 rfl tc (fun j hj => by rw [List.getElem?_eq_getElem hj]; exact hR j _ (List.getElem?_eq_getElem hj)) _ Tryz.underlying46 rfl Gt.l46 ?_)
       | (go_at_call 47; with_reducible refine (H47 _ hP2').mono ?_; rintro e w9 ⟨⟨D1, dd, rfl, hd0⟩, hb9⟩))
      go_meet
      exact ⟨D1, dd, rfl, kP3 _ _ hP3 hb9, fun _ => hd0⟩
     ·
      have hz : (two == 0) = false := by simpa using h0
      have hg := Lib.hid (C.hm1 h0)
      have hn0 := Lib.hid h0
      clear h0
      go_wp2
      go_meet
      exact ⟨none, 0, by rw [hg.out], hP3, fun h => absurd h hn0.out⟩
    case rest =>
    obtain ⟨D1, dd1, rfl, hPd, hrd1⟩ := hcut
    clear hP3
    generalize wc = W10 at hPd hrd1 ⊢
    have Q2 := oP2.out _ (oP3.out _ hPd).1
    have hd0 := (oP3.out _ hPd).2
    have H48a : Hid (Calls Tryz.prog 48 #[.slice B0 m0 d0, .int .i64 bad, .int .i64 bad, .slice D0 m0 dd0] W10 fun x w' => x = .returned (.bool true) ∧ Below W10.heap.size W10 w') := by
     by_cases h0 : bad = 0
     ·
      rw [h0]; exact spans_ok S0 B0 D0 m0 d0 dd0 _ C.hl.1 C.hl.2.2.1 Q2.2.1 (hd0 h0)
     ·
      rw [C.hm0 h0]; exact (spans_bad B0 D0 d0 0 dd0 bad h0 _).mono fun _ _ ⟨e, e2⟩ => ⟨e, by rw [← e2]; exact Below.refl _ _⟩
    have H48b : Hid (∀ W, Below W10.heap.size W10 W → Calls Tryz.prog 48 #[.slice B1 m1 d1, .int .i64 two, .int .i64 two, .slice D1 m1 dd1] W fun x w' => x = .returned (.bool true) ∧ Below W.heap.size W w') := fun W hb => by
     by_cases h0 : two = 0
     ·
      rw [h0]; exact spans_ok S1 B1 D1 m1 d1 dd1 _ C.hl.2.1 C.hl.2.2.2 (Q2.2.2.below hb) ((hrd1 h0).below hb)
     ·
      rw [C.hm1 h0]; exact (spans_bad B1 D1 d1 0 dd1 two h0 _).mono fun _ _ ⟨e, e2⟩ => ⟨e, by rw [← e2]; exact Below.refl _ _⟩
    have Hend := Lib.hid (Gp.below _ Q2.1)
    clear C Q2 hd0 hrd1 hPd oP2 oP3 kP2 kP3
    go_wp2_with (first
     | (go_at_call 48; with_reducible refine H48a.out.mono ?_; rintro e w11 ⟨rfl, hb11⟩)
     | (go_at_call 48; with_reducible refine (H48b.out _ hb11).mono ?_; rintro e w12 ⟨rfl, hb12⟩))
    go_ret
    exact ⟨ret_bool (by first | rfl | simp), bt_trans (bt_trans Hend.out hb11) hb12⟩

set_option maxHeartbeats 8000000 in
set_option maxRecDepth 100000 in
theorem stiLaw_any (t : Tms) (ht : t.ok) (l : List Chg) (A : Option Addr) (n c : Nat) (hn : l.length = n) (x side : Int)
 (hsz : ∀ s ∈ t.l0.b ++ t.l1.b, s.size ≤ 9223372036854775807) (hszl : ∀ d ∈ l, d.name.size ≤ 9223372036854775807) (w : World) (hl : RdC w A l) (hE : Env w) (G : Array Value) (hG : G = (t.cells ++ [Value.slice A n c]).toArray) :
 Calls Tryz.prog 8 #[.agg G, .int .i64 x, .int .i64 side] w fun x w' => x = .returned (.bool true) ∧ Below w.heap.size w w' := by
 have haw : ∀ W, Below w.heap.size w W → Calls Tryz.prog 13 #[] W fun x w' => x = .returned (.bool true) ∧ Below W.heap.size W w' := fun W h => awake_any W (env_below hE h)
 obtain ⟨P, Gp, hP⟩ := gp_of1 t ht A n c G hG w
 have hrest : ∀ b : Bool, (shortL t l = b) → (b = true → 20 < x ∧ x ≤ 256) → Calls Tryz.prog 8 #[.agg G, .int .i64 x, .int .i64 side] w fun x w' => x = .returned (.bool true) ∧ Below w.heap.size w w' := fun b hsh hx => by
  have H21 : ∀ W, P W → Calls Tryz.prog 21 #[.agg (t.cells ++ [Value.slice A n c]).toArray] W fun x w' => x = .returned (.bool b) ∧ Below W.heap.size W w' := fun W h => by
   have := short_any t ht _ l A n c rfl hn W (hl.below (Gp.below _ h))
   rw [hsh] at this; exact this
  have Haw : ∀ W, P W → Calls Tryz.prog 13 #[] W fun x w' => x = .returned (.bool true) ∧ Below W.heap.size W w' := fun W h => haw W (Gp.below _ h)
  have hgr := Gp.rg
  have hi49 := Gp.i49
  have Hgr := Lib.hid hgr; have Hi49 := Lib.hid hi49; have H21' := Lib.hid H21; have Haw' := Lib.hid Haw; have Hx := Lib.hid hx
  clear hsh hG ht hn hsz hszl hl haw H21 Haw hgr hi49 hE hx
  generalize (t.cells ++ [Value.slice A n c]) = gc at Hgr Hi49 H21'
  go_enter Tryz.func8, Tryz.ntmps8
  go_upto_region 1 with fail
  generalize (w.alloc (.cells G 49)) = W0 at hP ⊢
  cases b
  ·
   go_wp2_with (first
    | (go_at_call 13; refine (Haw'.out _ hP).mono ?_; rintro e w1 ⟨rfl, hb1⟩; have hP1 := Gp.kp _ _ hP hb1)
    | (refine wpList_load_cells_g 49 _ rfl w.heap.size 0 rfl gc (fun j hj => by rw [List.getElem?_eq_getElem hj]; exact Hgr.out _ hP1 j _ (List.getElem?_eq_getElem hj)) _ Tryz.underlying49 rfl Hi49.out rfl ?_)
    | (go_at_call 21; refine (H21'.out _ hP1).mono ?_; rintro e w2 ⟨rfl, hb2⟩; have hP2 := Gp.kp _ _ hP1 hb2))
   refine (Haw'.out _ hP2).mono ?_
   rintro e w3 ⟨rfl, hb3⟩
   go_wp2
   go_ret
   exact ⟨rfl, Gp.below _ (Gp.kp _ _ hP2 hb3)⟩
  ·
   obtain ⟨a1, a2⟩ := Hx.out rfl
   have b1 : decide ((20 : Int) < x) = true := decide_eq_true a1
   have b2 : decide (x ≤ 256) = true := decide_eq_true a2
   go_wp2_with (first
    | (go_at_call 13; refine (Haw'.out _ hP).mono ?_; rintro e w1 ⟨rfl, hb1⟩; have hP1 := Gp.kp _ _ hP hb1)
    | (refine wpList_load_cells_g 49 _ rfl w.heap.size 0 rfl gc (fun j hj => by rw [List.getElem?_eq_getElem hj]; exact Hgr.out _ hP1 j _ (List.getElem?_eq_getElem hj)) _ Tryz.underlying49 rfl Hi49.out rfl ?_)
    | (go_at_call 21; refine (H21'.out _ hP1).mono ?_; rintro e w2 ⟨rfl, hb2⟩; have hP2 := Gp.kp _ _ hP1 hb2))
   refine (Haw'.out _ hP2).mono ?_
   rintro e w3 ⟨rfl, hb3⟩
   go_wp2
   go_ret
   exact ⟨rfl, Gp.below _ (Gp.kp _ _ hP2 hb3)⟩
 by_cases hsh : shortL t l = true
 ·
  have hn66 : n ≤ 8 ∨ (64 < n ∧ n ≤ 66) := by
   have := (short_parts hsh).1
   rw [hn] at this
   unfold shortN at this
   simp at this; omega
  by_cases h20 : x ≤ 20 ∨ 256 < x
  ·
   obtain ⟨S0, S1, C⟩ := sti_facts P w t ht l A n c hn x side hn66 h20 hsz hszl hl haw Gp hsh
   exact sti_main P w t.cells A n c x side l _ _ _ S0 S1 _ _ Gp (tc_of t ht) C h20 G hP
  ·
   exact hrest true hsh (fun _ => by omega)
 ·
  exact hrest false (by simpa using hsh) (fun h => by cases h)
end Go.Proofs.YtmagppkclnebjaaGreatDoor
