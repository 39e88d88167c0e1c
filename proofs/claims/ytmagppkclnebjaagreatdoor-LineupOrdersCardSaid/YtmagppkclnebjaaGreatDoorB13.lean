/- The reference: Deviate. -/
import Derived.Test.YtmagppkclnebjaaGreatDoorB12
import Derived.IntWalk
set_option linter.unusedVariables false
set_option linter.unusedSimpArgs false
set_option linter.unusedSimpArgs false
namespace Go.Proofs.YtmagppkclnebjaaGreatDoor
open Go.RowKit
open L

theorem info39 : (Tryz.prog.info? 39).map (·.size) = some 4 := by kernel_rfl
theorem far4 {W : World} {g b o : Nat} (h : b ≠ g) (x0 x1 x2 x3 : Value) : ((((W.setCell ⟨g, 0, none⟩ x0).setCell ⟨g, 1, none⟩ x1).setCell ⟨g, 2, none⟩ x2).setCell ⟨g, 3, none⟩ x3).cell? ⟨b, o, none⟩ = W.cell? ⟨b, o, none⟩ := by
  have key : ∀ (V : World) (i : Nat) (x : Value), (V.setCell ⟨g, i, none⟩ x).cell? ⟨b, o, none⟩ = V.cell? ⟨b, o, none⟩ := fun V i x => World.cell?_of_block (Below.heap_setCell V ⟨g, i, none⟩ x b h)
  rw [key, key, key, key]
theorem devL_at (X : LU) (k p : Nat) (came : List Str) (hk : k < came.length) : devL X k p (came.drop k) = if came.getD k .empty ≠ X.b.getD p .empty then some ⟨k, X.b.getD p .empty, came.getD k .empty, X.b.getD ((p + 1) % 9) .empty⟩ else devL X (k + 1) ((p + 1) % 9) (came.drop (k + 1)) := by
  rw [List.drop_eq_getElem_cons hk, devL]
  have : came.getD k .empty = came[k] := by simp [List.getD, List.getElem?_eq_getElem hk]
  rw [this]

set_option maxHeartbeats 2000000 in
set_option maxRecDepth 100000 in
theorem refDev_any (l : LU) (hl : l.ok) (A : Array Value) (hA : A = l.cells.toArray) (s0 : Nat) (hs0 : s0 < 9) (came : List Str) (C : Option Addr) (n c : Nat) (hn : came.length = n) (hle : n ≤ 1000000) (w : World) (hc : Rd w C (came.map .string)) :
    Calls Tryz.prog 18 #[.agg A, .int .i64 ((s0 : Int) + 1), .slice C n c] w fun x w' => x = .returned (.tuple #[.agg ((devL l 0 s0 came).getD Dev.zero).val, .bool (devL l 0 s0 came).isSome]) ∧ Below w.heap.size w w' := by
  have Hl := Lib.hid hl; have Hn := Lib.hid hn; have Hc := Lib.hid hc
  have F0 : Hid (Below w.heap.size w ((w.alloc (.cells A 25)).alloc (.cells #[.int .i64 0, .string { data := #[] }, .string { data := #[] }, .string { data := #[] }] 39)) ∧ Bk ((w.alloc (.cells A 25)).alloc (.cells #[.int .i64 0, .string { data := #[] }, .string { data := #[] }, .string { data := #[] }] 39)) w.heap.size 25 l.cells.toArray ∧
      Bk ((w.alloc (.cells A 25)).alloc (.cells #[.int .i64 0, .string { data := #[] }, .string { data := #[] }, .string { data := #[] }] 39)) (w.heap.size + 1) 39 #[.int .i64 0, .string { data := #[] }, .string { data := #[] }, .string { data := #[] }]) := by
    refine ⟨bt_alloc (bt_new w _) _, by rw [← hA]; exact (Bk.new w 25 A).alloc _, ?_⟩
    have := Bk.new (w.alloc (.cells A 25)) 39 #[.int .i64 0, .string { data := #[] }, .string { data := #[] }, .string { data := #[] }]
    rwa [World.size_alloc] at this
  clear hA hl hn hc
  have b1 : (0 : Int) ≤ (s0 : Int) := by omega
  have b2 : (s0 : Int) < 9 := by omega
  go_enter Tryz.func18, Tryz.ntmps18
  go_upto_region 2 with fail
  generalize ((w.alloc (.cells A 25)).alloc (.cells #[.int .i64 0, .string { data := #[] }, .string { data := #[] }, .string { data := #[] }] 39)) = W0 at F0 ⊢
  go_loopw [8] (fun i wr => ∃ k : Nat, k ≤ n ∧ i = .int .i64 k ∧ (∃ q, wr = W0.drewN q) ∧ devL l 0 s0 came = devL l k ((s0 + k) % 9) (came.drop k)) (fun i _ => n - (intOf i).toNat)
  case atStart => exact ⟨0, by omega, rfl, ⟨0, rfl⟩, by rw [Nat.add_zero, Nat.mod_eq_of_lt hs0]; rfl⟩
  case round =>
    obtain ⟨k, hk, rfl, ⟨q, rfl⟩, hd⟩ := hrel
    have Hd := Lib.hid hd; clear hd
    by_cases hkn : k < n
    · obtain ⟨b, off, rfl, hc1⟩ := Hc.out.str (k := k) (by rw [Hn.out]; exact hkn)
      have hb0 : b < w.heap.size := World.block_lt_of_cell? w ⟨b, off + k, none⟩ hc1
      have hm : ((s0 : Int) + (k : Int)) % 9 = (((s0 + k) % 9 : Nat) : Int) := by omega
      have hp9 : (s0 + k) % 9 < 9 := Nat.mod_lt _ (by omega)
      have hpn : (s0 + (k + 1)) % 9 = ((s0 + k) % 9 + 1) % 9 := by omega
      have hat := devL_at l k ((s0 + k) % 9) came (by rw [Hn.out]; exact hkn)
      have Hpn := Lib.hid hpn; clear hpn
      rw [← Hd.out, ← Hpn.out] at hat
      have d1 : ∀ q', (W0.drewN q').cell? ⟨b, off + k, none⟩ = some (.string (came.getD k .empty)) := fun q' => (F0.out.1.cell (p := ⟨b, off + k, none⟩) hb0).trans hc1
      have d2 : ∀ q', (W0.drewN q').cell? ⟨w.heap.size, (s0 + k) % 9, none⟩ = some (.string (l.b.getD ((s0 + k) % 9) .empty)) := fun q' => LU.cell_b Hl.out (F0.out.2.1.drewN q') _ hp9
      have hm2 : ((((s0 + k) % 9 : Nat) : Int) + 1) % 9 = ((((s0 + (k + 1)) % 9 : Nat)) : Int) := by omega
      have hp92 : (s0 + (k + 1)) % 9 < 9 := Nat.mod_lt _ (by omega)
      have d3 : ∀ q', (W0.drewN q').cell? ⟨w.heap.size, (s0 + (k + 1)) % 9, none⟩ = some (.string (l.b.getD ((s0 + (k + 1)) % 9) .empty)) := fun q' => LU.cell_b Hl.out (F0.out.2.1.drewN q') _ hp92
      generalize (s0 + k) % 9 = p at hm hp9 hat d2 hm2
      generalize hpe : (s0 + (k + 1)) % 9 = p2 at hm2 hp92 hat d3
      have Hpe := Lib.hid hpe
      generalize came.getD k .empty = s at hat d1
      generalize l.b.getD p .empty = t at hat d2
      generalize l.b.getD p2 .empty = u at hat d3
      have Hat := Lib.hid hat; have D1 := Lib.hid d1; have D2 := Lib.hid d2; have D3 := Lib.hid d3
      clear hat d1 d2 d3 hc1 hpe
      have q0 : (0 : Int) ≤ (k : Int) := by omega
      have q1 : (k : Int) < (n : Int) := by omega
      have q2 : (0 : Int) ≤ (p : Int) := by omega
      have q3 : (p : Int) < 9 := by omega
      go_upto_region 5 with fail
      by_cases hst : s = t
      · have ht := tl_eq hst
        have Hst := Lib.hid hst; clear hst hm2
        have y1 := D1.out (q + 1); have y2 := D2.out (q + 1)
        refine wp_region_held_drew (S := fun W => W.cell? ⟨b, off + k, none⟩ = some (.string s) ∧ W.cell? ⟨w.heap.size, p, none⟩ = some (.string t)) (by kernel_rfl) (⟨y1, y2⟩) (fun hHeld => ?_)
        refine' wpAnyH_take (i := 0) (oi := { dst := some 21, op := Op.move (Operand.tmp 2), type := 26, pos := "ref.go:335", after := #[], guard := none }) (v := _) rfl (by kernel_rfl) (by kernel_rfl) (by kernel_rfl) (fun _ _ _ h => h) (Or.inl ⟨by kernel_rfl, ?hy1⟩) (by assumption) ?rest1
        case hy1 => (intro W hSW; (try dsimp only at hSW); go_simp; with_reducible rfl)
        try simp only [Act.put, List.setIfInBounds_toArray, List.set_cons_zero, List.set_cons_succ]
        refine' wpAnyH_take (i := 1) (oi := { dst := some 22, op := Op.move (Operand.tmp 8), type := 3, pos := "ref.go:335", after := #[], guard := none }) (v := _) rfl (by kernel_rfl) (by kernel_rfl) (by kernel_rfl) (fun _ _ _ h => h) (Or.inl ⟨by kernel_rfl, ?hy2⟩) (by assumption) ?rest2
        case hy2 => (intro W hSW; (try dsimp only at hSW); go_simp; with_reducible rfl)
        try simp only [Act.put, List.setIfInBounds_toArray, List.set_cons_zero, List.set_cons_succ]
        refine' wpAnyH_take (i := 2) (oi := { dst := some 23, op := Op.indexAddr 26 (Operand.tmp 21) (Operand.tmp 22), type := 0, pos := "ref.go:335", after := #[{ on := 0, ground := Ground.data }, { on := 1, ground := Ground.data }], guard := none }) (v := _) rfl (by kernel_rfl) (by kernel_rfl) (by kernel_rfl) (fun _ _ _ h => h) (Or.inl ⟨by kernel_rfl, ?hy3⟩) (by assumption) ?rest3
        case hy3 => (intro W hSW; (try dsimp only at hSW); go_simp; with_reducible rfl)
        try simp only [Act.put, List.setIfInBounds_toArray, List.set_cons_zero, List.set_cons_succ]
        refine' wpAnyH_take (i := 3) (oi := { dst := some 24, op := Op.load 9 (Operand.tmp 23), type := 9, pos := "ref.go:335", after := #[{ on := 2, ground := Ground.data }], guard := none }) (v := _) rfl (by kernel_rfl) (by kernel_rfl) (by kernel_rfl) (fun _ _ _ h => h) (Or.inl ⟨by kernel_rfl, ?hy4⟩) (by assumption) ?rest4
        case hy4 => (intro W hSW; (try dsimp only at hSW); go_simp; with_reducible rfl)
        try simp only [Act.put, List.setIfInBounds_toArray, List.set_cons_zero, List.set_cons_succ]
        refine' wpAnyH_take (i := 4) (oi := { dst := some 25, op := Op.move (Operand.tmp 9), type := 3, pos := "ref.go:335", after := #[], guard := none }) (v := _) rfl (by kernel_rfl) (by kernel_rfl) (by kernel_rfl) (fun _ _ _ h => h) (Or.inl ⟨by kernel_rfl, ?hy5⟩) (by assumption) ?rest5
        case hy5 => (intro W hSW; (try dsimp only at hSW); go_simp; with_reducible rfl)
        try simp only [Act.put, List.setIfInBounds_toArray, List.set_cons_zero, List.set_cons_succ]
        refine' wpAnyH_take (i := 5) (oi := { dst := some 26, op := Op.fieldAddr 25 (Operand.tmp 3) 0, type := 0, pos := "ref.go:335", after := #[], guard := none }) (v := _) rfl (by kernel_rfl) (by kernel_rfl) (by kernel_rfl) (fun _ _ _ h => h) (Or.inl ⟨by kernel_rfl, ?hy6⟩) (by assumption) ?rest6
        case hy6 => (intro W hSW; (try dsimp only at hSW); go_simp; with_reducible rfl)
        try simp only [Act.put, List.setIfInBounds_toArray, List.set_cons_zero, List.set_cons_succ]
        refine' wpAnyH_take (i := 6) (oi := { dst := some 27, op := Op.indexAddr 22 (Operand.tmp 26) (Operand.tmp 25), type := 0, pos := "ref.go:335", after := #[{ on := 5, ground := Ground.data }, { on := 4, ground := Ground.data }], guard := none }) (v := _) rfl (by kernel_rfl) (by kernel_rfl) (by kernel_rfl) (fun _ _ _ h => h) (Or.inl ⟨by kernel_rfl, ?hy7⟩) (by assumption) ?rest7
        case hy7 => (intro W hSW; (try dsimp only at hSW); go_simp; with_reducible rfl)
        try simp only [Act.put, List.setIfInBounds_toArray, List.set_cons_zero, List.set_cons_succ]
        refine' wpAnyH_take (i := 7) (oi := { dst := some 28, op := Op.load 9 (Operand.tmp 27), type := 9, pos := "ref.go:335", after := #[{ on := 6, ground := Ground.data }], guard := none }) (v := _) rfl (by kernel_rfl) (by kernel_rfl) (by kernel_rfl) (fun _ _ _ h => h) (Or.inl ⟨by kernel_rfl, ?hy8⟩) (by assumption) ?rest8
        case hy8 => (intro W hSW; (try dsimp only at hSW); go_simp; with_reducible rfl)
        try simp only [Act.put, List.setIfInBounds_toArray, List.set_cons_zero, List.set_cons_succ]
        refine' wpAnyH_take (i := 8) (oi := { dst := some 29, op := Op.binOp BinOp.neq 9 (Operand.tmp 24) (Operand.tmp 28) 9, type := 4, pos := "ref.go:335", after := #[{ on := 3, ground := Ground.data }, { on := 7, ground := Ground.data }], guard := none }) (v := _) rfl (by kernel_rfl) (by kernel_rfl) (by kernel_rfl) (fun _ _ _ h => h) (Or.inl ⟨by kernel_rfl, ?hy9⟩) (by assumption) ?rest9
        case hy9 => (intro W hSW; (try dsimp only at hSW); go_simp; with_reducible rfl)
        try simp only [Act.put, List.setIfInBounds_toArray, List.set_cons_zero, List.set_cons_succ]
        refine wpAnyH_done (by kernel_rfl) ?_ _
        clear hHeld y1 y2
        go_wp2
        go_roundw
        case rel => exact ⟨k + 1, by omega, by go_num, ⟨q + 1, rfl⟩, by rw [Hpe.out, Hat.out, if_neg (by rw [Hst.out]; simp)]⟩
        case measure => simp [intOf]; omega
      · have ht := tl_ne hst
        have Hst := Lib.hid hst; clear hst
        have y1 := D1.out (q + 1); have y2 := D2.out (q + 1)
        refine wp_region_held_drew (S := fun W => W.cell? ⟨b, off + k, none⟩ = some (.string s) ∧ W.cell? ⟨w.heap.size, p, none⟩ = some (.string t)) (by kernel_rfl) (⟨y1, y2⟩) (fun hHeld => ?_)
        refine' wpAnyH_take (i := 0) (oi := { dst := some 21, op := Op.move (Operand.tmp 2), type := 26, pos := "ref.go:335", after := #[], guard := none }) (v := _) rfl (by kernel_rfl) (by kernel_rfl) (by kernel_rfl) (fun _ _ _ h => h) (Or.inl ⟨by kernel_rfl, ?hy10⟩) (by assumption) ?rest10
        case hy10 => (intro W hSW; (try dsimp only at hSW); go_simp; with_reducible rfl)
        try simp only [Act.put, List.setIfInBounds_toArray, List.set_cons_zero, List.set_cons_succ]
        refine' wpAnyH_take (i := 1) (oi := { dst := some 22, op := Op.move (Operand.tmp 8), type := 3, pos := "ref.go:335", after := #[], guard := none }) (v := _) rfl (by kernel_rfl) (by kernel_rfl) (by kernel_rfl) (fun _ _ _ h => h) (Or.inl ⟨by kernel_rfl, ?hy11⟩) (by assumption) ?rest11
        case hy11 => (intro W hSW; (try dsimp only at hSW); go_simp; with_reducible rfl)
        try simp only [Act.put, List.setIfInBounds_toArray, List.set_cons_zero, List.set_cons_succ]
        refine' wpAnyH_take (i := 2) (oi := { dst := some 23, op := Op.indexAddr 26 (Operand.tmp 21) (Operand.tmp 22), type := 0, pos := "ref.go:335", after := #[{ on := 0, ground := Ground.data }, { on := 1, ground := Ground.data }], guard := none }) (v := _) rfl (by kernel_rfl) (by kernel_rfl) (by kernel_rfl) (fun _ _ _ h => h) (Or.inl ⟨by kernel_rfl, ?hy12⟩) (by assumption) ?rest12
        case hy12 => (intro W hSW; (try dsimp only at hSW); go_simp; with_reducible rfl)
        try simp only [Act.put, List.setIfInBounds_toArray, List.set_cons_zero, List.set_cons_succ]
        refine' wpAnyH_take (i := 3) (oi := { dst := some 24, op := Op.load 9 (Operand.tmp 23), type := 9, pos := "ref.go:335", after := #[{ on := 2, ground := Ground.data }], guard := none }) (v := _) rfl (by kernel_rfl) (by kernel_rfl) (by kernel_rfl) (fun _ _ _ h => h) (Or.inl ⟨by kernel_rfl, ?hy13⟩) (by assumption) ?rest13
        case hy13 => (intro W hSW; (try dsimp only at hSW); go_simp; with_reducible rfl)
        try simp only [Act.put, List.setIfInBounds_toArray, List.set_cons_zero, List.set_cons_succ]
        refine' wpAnyH_take (i := 4) (oi := { dst := some 25, op := Op.move (Operand.tmp 9), type := 3, pos := "ref.go:335", after := #[], guard := none }) (v := _) rfl (by kernel_rfl) (by kernel_rfl) (by kernel_rfl) (fun _ _ _ h => h) (Or.inl ⟨by kernel_rfl, ?hy14⟩) (by assumption) ?rest14
        case hy14 => (intro W hSW; (try dsimp only at hSW); go_simp; with_reducible rfl)
        try simp only [Act.put, List.setIfInBounds_toArray, List.set_cons_zero, List.set_cons_succ]
        refine' wpAnyH_take (i := 5) (oi := { dst := some 26, op := Op.fieldAddr 25 (Operand.tmp 3) 0, type := 0, pos := "ref.go:335", after := #[], guard := none }) (v := _) rfl (by kernel_rfl) (by kernel_rfl) (by kernel_rfl) (fun _ _ _ h => h) (Or.inl ⟨by kernel_rfl, ?hy15⟩) (by assumption) ?rest15
        case hy15 => (intro W hSW; (try dsimp only at hSW); go_simp; with_reducible rfl)
        try simp only [Act.put, List.setIfInBounds_toArray, List.set_cons_zero, List.set_cons_succ]
        refine' wpAnyH_take (i := 6) (oi := { dst := some 27, op := Op.indexAddr 22 (Operand.tmp 26) (Operand.tmp 25), type := 0, pos := "ref.go:335", after := #[{ on := 5, ground := Ground.data }, { on := 4, ground := Ground.data }], guard := none }) (v := _) rfl (by kernel_rfl) (by kernel_rfl) (by kernel_rfl) (fun _ _ _ h => h) (Or.inl ⟨by kernel_rfl, ?hy16⟩) (by assumption) ?rest16
        case hy16 => (intro W hSW; (try dsimp only at hSW); go_simp; with_reducible rfl)
        try simp only [Act.put, List.setIfInBounds_toArray, List.set_cons_zero, List.set_cons_succ]
        refine' wpAnyH_take (i := 7) (oi := { dst := some 28, op := Op.load 9 (Operand.tmp 27), type := 9, pos := "ref.go:335", after := #[{ on := 6, ground := Ground.data }], guard := none }) (v := _) rfl (by kernel_rfl) (by kernel_rfl) (by kernel_rfl) (fun _ _ _ h => h) (Or.inl ⟨by kernel_rfl, ?hy17⟩) (by assumption) ?rest17
        case hy17 => (intro W hSW; (try dsimp only at hSW); go_simp; with_reducible rfl)
        try simp only [Act.put, List.setIfInBounds_toArray, List.set_cons_zero, List.set_cons_succ]
        refine' wpAnyH_take (i := 8) (oi := { dst := some 29, op := Op.binOp BinOp.neq 9 (Operand.tmp 24) (Operand.tmp 28) 9, type := 4, pos := "ref.go:335", after := #[{ on := 3, ground := Ground.data }, { on := 7, ground := Ground.data }], guard := none }) (v := _) rfl (by kernel_rfl) (by kernel_rfl) (by kernel_rfl) (fun _ _ _ h => h) (Or.inl ⟨by kernel_rfl, ?hy18⟩) (by assumption) ?rest18
        case hy18 => (intro W hSW; (try dsimp only at hSW); go_simp; with_reducible rfl)
        try simp only [Act.put, List.setIfInBounds_toArray, List.set_cons_zero, List.set_cons_succ]
        refine wpAnyH_done (by kernel_rfl) ?_ _
        clear hHeld y1 y2
        have y1 : ((W0.drewN q).drew.drew).cell? ⟨b, off + k, none⟩ = some (.string s) := D1.out (q + 1 + 1)
        have y2 : ((W0.drewN q).drew.drew).cell? ⟨w.heap.size, p, none⟩ = some (.string t) := D2.out (q + 1 + 1)
        have y3 : ((W0.drewN q).drew.drew).cell? ⟨w.heap.size, p2, none⟩ = some (.string u) := D3.out (q + 1 + 1)
        have hbr : Bk ((W0.drewN q).drew.drew) (w.heap.size + 1) 39 #[.int .i64 0, .string { data := #[] }, .string { data := #[] }, .string { data := #[] }] := (F0.out.2.2.drewN q).drew.drew
        have z0 : ((W0.drewN q).drew.drew).cell? ⟨w.heap.size + 1, 0, none⟩ = some (.int .i64 0) := by rw [hbr.cell]; rfl
        have z1 : ((W0.drewN q).drew.drew).cell? ⟨w.heap.size + 1, 1, none⟩ = some (.string { data := #[] }) := by rw [hbr.cell]; rfl
        have z2 : ((W0.drewN q).drew.drew).cell? ⟨w.heap.size + 1, 2, none⟩ = some (.string { data := #[] }) := by rw [hbr.cell]; rfl
        have z3 : ((W0.drewN q).drew.drew).cell? ⟨w.heap.size + 1, 3, none⟩ = some (.string { data := #[] }) := by rw [hbr.cell]; rfl
        have f0 := hbr.frozen 0; have f1 := hbr.frozen 1; have f2 := hbr.frozen 2; have f3 := hbr.frozen 3
        have zz0 : (W0.drewN (q + 1 + 1)).cell? ⟨w.heap.size + 1, 0, none⟩ = some (.int .i64 0) := z0
        have zz1 : (W0.drewN (q + 1 + 1)).cell? ⟨w.heap.size + 1, 1, none⟩ = some (.string { data := #[] }) := z1
        have zz2 : (W0.drewN (q + 1 + 1)).cell? ⟨w.heap.size + 1, 2, none⟩ = some (.string { data := #[] }) := z2
        have zz3 : (W0.drewN (q + 1 + 1)).cell? ⟨w.heap.size + 1, 3, none⟩ = some (.string { data := #[] }) := z3
        have ff0 : (W0.drewN (q + 1 + 1)).frozen? ⟨w.heap.size + 1, 0, none⟩ = false := f0
        have ff1 : (W0.drewN (q + 1 + 1)).frozen? ⟨w.heap.size + 1, 1, none⟩ = false := f1
        have ff2 : (W0.drewN (q + 1 + 1)).frozen? ⟨w.heap.size + 1, 2, none⟩ = false := f2
        have ff3 : (W0.drewN (q + 1 + 1)).frozen? ⟨w.heap.size + 1, 3, none⟩ = false := f3
        have hb3 : b ≠ w.heap.size + 1 := by omega
        have hb4 : w.heap.size ≠ w.heap.size + 1 := by omega
        have Hbr := Lib.hid hbr
        have HB0 := Lib.hid (bt_drew (bt_drew (bt_drewN F0.out.1 q)))
        clear hbr
        go_upto_region 6 with fail
        clear ht
        have hw1 : IntKind.i64.wrap ((p : Int) + 1) = (p : Int) + 1 := IntWalk.i64_in _ (by omega)
        have hm3 : ((p : Int) + 1).tmod 9 = (p2 : Int) := by rw [Int.tmod_eq_emod_of_nonneg (by omega)]; exact hm2
        have q5 : (0 : Int) ≤ (p2 : Int) := by omega
        have q6 : (p2 : Int) < 9 := by omega
        clear hm2
        refine wp_region_held_drew (S := fun W => W.cell? ⟨b, off + k, none⟩ = some (.string s) ∧ W.cell? ⟨w.heap.size, p, none⟩ = some (.string t) ∧ W.cell? ⟨w.heap.size, p2, none⟩ = some (.string u)) (by kernel_rfl) (⟨y1, y2, y3⟩) (fun hHeld => ?_)
        refine' wpAnyH_take (i := 0) (oi := { dst := some 30, op := Op.move (Operand.tmp 8), type := 3, pos := "ref.go:336", after := #[], guard := none }) (v := _) rfl (by kernel_rfl) (by kernel_rfl) (by kernel_rfl) (fun _ _ _ h => h) (Or.inl ⟨by kernel_rfl, ?hy19⟩) (by assumption) ?rest19
        case hy19 => (intro W hSW; (try dsimp only at hSW); go_simp; with_reducible rfl)
        try simp only [Act.put, List.setIfInBounds_toArray, List.set_cons_zero, List.set_cons_succ]
        refine' wpAnyH_take (i := 1) (oi := { dst := some 31, op := Op.move (Operand.tmp 9), type := 3, pos := "ref.go:336", after := #[], guard := none }) (v := _) rfl (by kernel_rfl) (by kernel_rfl) (by kernel_rfl) (fun _ _ _ h => h) (Or.inl ⟨by kernel_rfl, ?hy20⟩) (by assumption) ?rest20
        case hy20 => (intro W hSW; (try dsimp only at hSW); go_simp; with_reducible rfl)
        try simp only [Act.put, List.setIfInBounds_toArray, List.set_cons_zero, List.set_cons_succ]
        refine' wpAnyH_take (i := 2) (oi := { dst := some 32, op := Op.fieldAddr 25 (Operand.tmp 3) 0, type := 0, pos := "ref.go:336", after := #[], guard := none }) (v := _) rfl (by kernel_rfl) (by kernel_rfl) (by kernel_rfl) (fun _ _ _ h => h) (Or.inl ⟨by kernel_rfl, ?hy21⟩) (by assumption) ?rest21
        case hy21 => (intro W hSW; (try dsimp only at hSW); go_simp; with_reducible rfl)
        try simp only [Act.put, List.setIfInBounds_toArray, List.set_cons_zero, List.set_cons_succ]
        refine' wpAnyH_take (i := 3) (oi := { dst := some 33, op := Op.indexAddr 22 (Operand.tmp 32) (Operand.tmp 31), type := 0, pos := "ref.go:336", after := #[{ on := 2, ground := Ground.data }, { on := 1, ground := Ground.data }], guard := none }) (v := _) rfl (by kernel_rfl) (by kernel_rfl) (by kernel_rfl) (fun _ _ _ h => h) (Or.inl ⟨by kernel_rfl, ?hy22⟩) (by assumption) ?rest22
        case hy22 => (intro W hSW; (try dsimp only at hSW); go_simp; with_reducible rfl)
        try simp only [Act.put, List.setIfInBounds_toArray, List.set_cons_zero, List.set_cons_succ]
        refine' wpAnyH_take (i := 4) (oi := { dst := some 34, op := Op.load 9 (Operand.tmp 33), type := 9, pos := "ref.go:336", after := #[{ on := 3, ground := Ground.data }], guard := none }) (v := _) rfl (by kernel_rfl) (by kernel_rfl) (by kernel_rfl) (fun _ _ _ h => h) (Or.inl ⟨by kernel_rfl, ?hy23⟩) (by assumption) ?rest23
        case hy23 => (intro W hSW; (try dsimp only at hSW); go_simp; with_reducible rfl)
        try simp only [Act.put, List.setIfInBounds_toArray, List.set_cons_zero, List.set_cons_succ]
        refine' wpAnyH_take (i := 5) (oi := { dst := some 35, op := Op.move (Operand.tmp 2), type := 26, pos := "ref.go:336", after := #[], guard := none }) (v := _) rfl (by kernel_rfl) (by kernel_rfl) (by kernel_rfl) (fun _ _ _ h => h) (Or.inl ⟨by kernel_rfl, ?hy24⟩) (by assumption) ?rest24
        case hy24 => (intro W hSW; (try dsimp only at hSW); go_simp; with_reducible rfl)
        try simp only [Act.put, List.setIfInBounds_toArray, List.set_cons_zero, List.set_cons_succ]
        refine' wpAnyH_take (i := 6) (oi := { dst := some 36, op := Op.move (Operand.tmp 8), type := 3, pos := "ref.go:336", after := #[], guard := none }) (v := _) rfl (by kernel_rfl) (by kernel_rfl) (by kernel_rfl) (fun _ _ _ h => h) (Or.inl ⟨by kernel_rfl, ?hy25⟩) (by assumption) ?rest25
        case hy25 => (intro W hSW; (try dsimp only at hSW); go_simp; with_reducible rfl)
        try simp only [Act.put, List.setIfInBounds_toArray, List.set_cons_zero, List.set_cons_succ]
        refine' wpAnyH_take (i := 7) (oi := { dst := some 37, op := Op.indexAddr 26 (Operand.tmp 35) (Operand.tmp 36), type := 0, pos := "ref.go:336", after := #[{ on := 5, ground := Ground.data }, { on := 6, ground := Ground.data }], guard := none }) (v := _) rfl (by kernel_rfl) (by kernel_rfl) (by kernel_rfl) (fun _ _ _ h => h) (Or.inl ⟨by kernel_rfl, ?hy26⟩) (by assumption) ?rest26
        case hy26 => (intro W hSW; (try dsimp only at hSW); go_simp; with_reducible rfl)
        try simp only [Act.put, List.setIfInBounds_toArray, List.set_cons_zero, List.set_cons_succ]
        refine' wpAnyH_take (i := 8) (oi := { dst := some 38, op := Op.load 9 (Operand.tmp 37), type := 9, pos := "ref.go:336", after := #[{ on := 7, ground := Ground.data }], guard := none }) (v := _) rfl (by kernel_rfl) (by kernel_rfl) (by kernel_rfl) (fun _ _ _ h => h) (Or.inl ⟨by kernel_rfl, ?hy27⟩) (by assumption) ?rest27
        case hy27 => (intro W hSW; (try dsimp only at hSW); go_simp; with_reducible rfl)
        try simp only [Act.put, List.setIfInBounds_toArray, List.set_cons_zero, List.set_cons_succ]
        refine' wpAnyH_take (i := 9) (oi := { dst := some 39, op := Op.move (Operand.tmp 9), type := 3, pos := "ref.go:336", after := #[], guard := none }) (v := _) rfl (by kernel_rfl) (by kernel_rfl) (by kernel_rfl) (fun _ _ _ h => h) (Or.inl ⟨by kernel_rfl, ?hy28⟩) (by assumption) ?rest28
        case hy28 => (intro W hSW; (try dsimp only at hSW); go_simp; with_reducible rfl)
        try simp only [Act.put, List.setIfInBounds_toArray, List.set_cons_zero, List.set_cons_succ]
        refine' wpAnyH_take (i := 10) (oi := { dst := some 40, op := Op.binOp BinOp.add 3 (Operand.tmp 39) (Operand.const (Value.int IntKind.i64 1)) 3, type := 3, pos := "ref.go:336", after := #[{ on := 9, ground := Ground.data }], guard := none }) (v := _) rfl (by kernel_rfl) (by kernel_rfl) (by kernel_rfl) (fun _ _ _ h => h) (Or.inl ⟨by kernel_rfl, ?hy29⟩) (by assumption) ?rest29
        case hy29 => (intro W hSW; (try dsimp only at hSW); go_simp; with_reducible rfl)
        try simp only [Act.put, List.setIfInBounds_toArray, List.set_cons_zero, List.set_cons_succ]
        refine' wpAnyH_take (i := 11) (oi := { dst := some 41, op := Op.binOp BinOp.rem 3 (Operand.tmp 40) (Operand.const (Value.int IntKind.i64 9)) 3, type := 3, pos := "ref.go:336", after := #[{ on := 10, ground := Ground.data }], guard := none }) (v := _) rfl (by kernel_rfl) (by kernel_rfl) (by kernel_rfl) (fun _ _ _ h => h) (Or.inl ⟨by kernel_rfl, ?hy30⟩) (by assumption) ?rest30
        case hy30 => (intro W hSW; (try dsimp only at hSW); go_simp; with_reducible rfl)
        try simp only [Act.put, List.setIfInBounds_toArray, List.set_cons_zero, List.set_cons_succ]
        refine' wpAnyH_take (i := 12) (oi := { dst := some 42, op := Op.fieldAddr 25 (Operand.tmp 3) 0, type := 0, pos := "ref.go:336", after := #[], guard := none }) (v := _) rfl (by kernel_rfl) (by kernel_rfl) (by kernel_rfl) (fun _ _ _ h => h) (Or.inl ⟨by kernel_rfl, ?hy31⟩) (by assumption) ?rest31
        case hy31 => (intro W hSW; (try dsimp only at hSW); go_simp; with_reducible rfl)
        try simp only [Act.put, List.setIfInBounds_toArray, List.set_cons_zero, List.set_cons_succ]
        refine' wpAnyH_take (i := 13) (oi := { dst := some 43, op := Op.indexAddr 22 (Operand.tmp 42) (Operand.tmp 41), type := 0, pos := "ref.go:336", after := #[{ on := 12, ground := Ground.data }, { on := 11, ground := Ground.data }], guard := none }) (v := _) rfl (by kernel_rfl) (by kernel_rfl) (by kernel_rfl) (fun _ _ _ h => h) (Or.inl ⟨by kernel_rfl, ?hy32⟩) (by assumption) ?rest32
        case hy32 => (intro W hSW; (try dsimp only at hSW); go_simp; with_reducible rfl)
        try simp only [Act.put, List.setIfInBounds_toArray, List.set_cons_zero, List.set_cons_succ]
        refine' wpAnyH_take (i := 14) (oi := { dst := some 44, op := Op.load 9 (Operand.tmp 43), type := 9, pos := "ref.go:336", after := #[{ on := 13, ground := Ground.data }], guard := none }) (v := _) rfl (by kernel_rfl) (by kernel_rfl) (by kernel_rfl) (fun _ _ _ h => h) (Or.inl ⟨by kernel_rfl, ?hy33⟩) (by assumption) ?rest33
        case hy33 => (intro W hSW; (try dsimp only at hSW); go_simp; with_reducible rfl)
        try simp only [Act.put, List.setIfInBounds_toArray, List.set_cons_zero, List.set_cons_succ]
        refine' wpAnyH_take (i := 15) (oi := { dst := some 45, op := Op.build 39 #[(0, Operand.tmp 30), (1, Operand.tmp 34), (2, Operand.tmp 38), (3, Operand.tmp 44)], type := 39, pos := "ref.go:336", after := #[{ on := 0, ground := Ground.data }, { on := 4, ground := Ground.data }, { on := 8, ground := Ground.data }, { on := 14, ground := Ground.data }], guard := none }) (v := _) rfl (by kernel_rfl) (by kernel_rfl) (by kernel_rfl) (fun _ _ _ h => h) (Or.inl ⟨by kernel_rfl, ?hy34⟩) (by assumption) ?rest34
        case hy34 => (intro W hSW; (try dsimp only at hSW); go_simp; with_reducible rfl)
        try simp only [Act.put, List.setIfInBounds_toArray, List.set_cons_zero, List.set_cons_succ]
        refine wpAnyH_ready (rs := [16]) (by kernel_rfl) (by simp) ?_
        refine AllReadyH.cons (o := { dst := none, op := Op.store 39 (Operand.tmp 6) (Operand.tmp 45), type := 0, pos := "ref.go:336", after := #[{ on := 15, ground := Ground.data }, { on := 0, ground := Ground.phase }, { on := 1, ground := Ground.phase }, { on := 2, ground := Ground.phase }, { on := 3, ground := Ground.phase }, { on := 4, ground := Ground.phase }, { on := 5, ground := Ground.phase }, { on := 6, ground := Ground.phase }, { on := 7, ground := Ground.phase }, { on := 8, ground := Ground.phase }, { on := 9, ground := Ground.phase }, { on := 10, ground := Ground.phase }, { on := 11, ground := Ground.phase }, { on := 12, ground := Ground.phase }, { on := 13, ground := Ground.phase }, { on := 14, ground := Ground.phase }, { on := 15, ground := Ground.phase }], guard := none }) rfl (fun K hK => ?_) AllReadyH.nil
        go_simp
        refine hK.out _ _ (⟨(far4 hb3 _ _ _ _).trans hHeld.1, (far4 hb4 _ _ _ _).trans hHeld.2.1, (far4 hb4 _ _ _ _).trans hHeld.2.2⟩) (fun hHeld => ?_)
        clear hK K
        try simp only [Act.put, List.setIfInBounds_toArray, List.set_cons_zero, List.set_cons_succ]
        refine wpAnyH_ready (rs := [17]) (by kernel_rfl) (by simp) ?_
        refine AllReadyH.cons (o := { dst := some 7, op := Op.assign (Operand.const (Value.bool true)), type := 4, pos := "ref.go:336", after := #[{ on := 16, ground := Ground.chain }, { on := 0, ground := Ground.phase }, { on := 1, ground := Ground.phase }, { on := 2, ground := Ground.phase }, { on := 3, ground := Ground.phase }, { on := 4, ground := Ground.phase }, { on := 5, ground := Ground.phase }, { on := 6, ground := Ground.phase }, { on := 7, ground := Ground.phase }, { on := 8, ground := Ground.phase }, { on := 9, ground := Ground.phase }, { on := 10, ground := Ground.phase }, { on := 11, ground := Ground.phase }, { on := 12, ground := Ground.phase }, { on := 13, ground := Ground.phase }, { on := 14, ground := Ground.phase }, { on := 15, ground := Ground.phase }, { on := 16, ground := Ground.phase }], guard := none }) rfl (fun K hK => ?_) AllReadyH.nil
        go_simp
        refine hK.out _ _ (hHeld) (fun hHeld => ?_)
        clear hK K
        try simp only [Act.put, List.setIfInBounds_toArray, List.set_cons_zero, List.set_cons_succ]
        refine wpAnyH_done (by kernel_rfl) ?_ _
        clear hHeld y1 y2 y3 z0 z1 z2 z3 zz0 zz1 zz2 zz3 f0 f1 f2 f3 ff0 ff1 ff2 ff3 hw1 hm3
        go_wp2
        have hdv : devL l 0 s0 came = some ⟨k, t, s, u⟩ := by rw [Hat.out, if_pos Hst.out]
        refine bodyPost_ret (results_cell_row2 rfl _ _ (w.heap.size + 1) 39 #[.int .i64 k, .string t, .string s, .string u] _ rfl ((((Hbr.out.set_ 0 (.int .i64 k)).set_ 1 (.string t)).set_ 2 (.string s)).set_ 3 (.string u)) Tryz.underlying39 rfl info39) rfl ?_
        rw [hdv]
        refine ⟨rfl, ?_⟩
        exact (((HB0.out.setCell (p := ⟨w.heap.size + 1, 0, none⟩) (by show w.heap.size ≤ w.heap.size + 1; omega) _).setCell (p := ⟨w.heap.size + 1, 1, none⟩) (by show w.heap.size ≤ w.heap.size + 1; omega) _).setCell (p := ⟨w.heap.size + 1, 2, none⟩) (by show w.heap.size ≤ w.heap.size + 1; omega) _).setCell (p := ⟨w.heap.size + 1, 3, none⟩) (by show w.heap.size ≤ w.heap.size + 1; omega) _
    · obtain rfl : k = n := by omega
      have hdv : devL l 0 s0 came = none := by rw [Hd.out, List.drop_of_length_le (by rw [Hn.out]; exact Nat.le_refl _)]; rfl
      have Hdv := Lib.hid hdv; clear hdv
      have hbr : Bk (W0.drewN q) (w.heap.size + 1) 39 #[.int .i64 0, .string { data := #[] }, .string { data := #[] }, .string { data := #[] }] := F0.out.2.2.drewN _
      have z0 : (W0.drewN q).cell? ⟨w.heap.size + 1, 0, none⟩ = some (.int .i64 0) := by rw [hbr.cell]; rfl
      have z1 : (W0.drewN q).cell? ⟨w.heap.size + 1, 1, none⟩ = some (.string { data := #[] }) := by rw [hbr.cell]; rfl
      have z2 : (W0.drewN q).cell? ⟨w.heap.size + 1, 2, none⟩ = some (.string { data := #[] }) := by rw [hbr.cell]; rfl
      have z3 : (W0.drewN q).cell? ⟨w.heap.size + 1, 3, none⟩ = some (.string { data := #[] }) := by rw [hbr.cell]; rfl
      have f0 := hbr.frozen 0; have f1 := hbr.frozen 1; have f2 := hbr.frozen 2; have f3 := hbr.frozen 3
      have Hbr := Lib.hid hbr
      have HB0 := Lib.hid (bt_drewN F0.out.1 q)
      clear hbr
      go_wp2
      refine bodyPost_ret (results_cell_row2 rfl _ _ (w.heap.size + 1) 39 #[.int .i64 0, .string { data := #[] }, .string { data := #[] }, .string { data := #[] }] _ rfl ((((Hbr.out.set_ 0 (.int .i64 0)).set_ 1 (.string { data := #[] })).set_ 2 (.string { data := #[] })).set_ 3 (.string { data := #[] })) Tryz.underlying39 rfl info39) rfl ?_
      rw [Hdv.out]
      refine ⟨rfl, ?_⟩
      exact (((HB0.out.setCell (p := ⟨w.heap.size + 1, 0, none⟩) (by show w.heap.size ≤ w.heap.size + 1; omega) _).setCell (p := ⟨w.heap.size + 1, 1, none⟩) (by show w.heap.size ≤ w.heap.size + 1; omega) _).setCell (p := ⟨w.heap.size + 1, 2, none⟩) (by show w.heap.size ≤ w.heap.size + 1; omega) _).setCell (p := ⟨w.heap.size + 1, 3, none⟩) (by show w.heap.size ≤ w.heap.size + 1; omega) _
end Go.Proofs.YtmagppkclnebjaaGreatDoor
