/- dugoutlaw03.awake: it returns true. -/
import Derived.Test.YtmagppkclnebjaaGreatDoorB8
import Derived.Test.YtmagppkclnebjaaGreatDoorP4
import Derived.Test.YtmagppkclnebjaaGreatDoorQr
import Derived.Test.YtmagppkclnebjaaGreatDoorB1
set_option linter.unusedVariables false
set_option linter.unusedSimpArgs false
set_option linter.unusedSimpArgs false
set_option linter.unusedVariables false
namespace Go.Proofs.YtmagppkclnebjaaGreatDoor
open Go.RowKit
open L

theorem keep_env : Keep Env := fun _ _ h hb => env_below h hb
/-- the teams of the example, as the walk carries them: a word that nobody lays open -/
def TX : Array Value := exT.cells.toArray
def TX0 : Array Value := exT.l0.cells.toArray
theorem TX_size : TX.size = 36 := Tms.size36 exT exT_ok
theorem x54_there (W : World) : (W.alloc (.cells #[.string { data := #[] }, .string { data := #[] }, .string { data := #[] }, .string { data := #[] }, .string { data := #[] }, .string { data := #[] }, .string { data := #[] }, .string { data := #[] }, .string { data := #[] }, .int .i64 0, .int .i64 0, .int .i64 0, .int .i64 0, .int .i64 0, .int .i64 0, .int .i64 0, .int .i64 0, .int .i64 0, .string { data := #[] }, .string { data := #[] }, .string { data := #[] }, .string { data := #[] }, .string { data := #[] }, .string { data := #[] }, .string { data := #[] }, .string { data := #[] }, .string { data := #[] }, .int .i64 0, .int .i64 0, .int .i64 0, .int .i64 0, .int .i64 0, .int .i64 0, .int .i64 0, .int .i64 0, .int .i64 0] 54)).there W.heap.size 0 TX.size := Bk.there (Bk.new W 54 #[.string { data := #[] }, .string { data := #[] }, .string { data := #[] }, .string { data := #[] }, .string { data := #[] }, .string { data := #[] }, .string { data := #[] }, .string { data := #[] }, .string { data := #[] }, .int .i64 0, .int .i64 0, .int .i64 0, .int .i64 0, .int .i64 0, .int .i64 0, .int .i64 0, .int .i64 0, .int .i64 0, .string { data := #[] }, .string { data := #[] }, .string { data := #[] }, .string { data := #[] }, .string { data := #[] }, .string { data := #[] }, .string { data := #[] }, .string { data := #[] }, .string { data := #[] }, .int .i64 0, .int .i64 0, .int .i64 0, .int .i64 0, .int .i64 0, .int .i64 0, .int .i64 0, .int .i64 0, .int .i64 0]) TX.size (Nat.le_of_eq (by rw [TX_size]; rfl))
theorem x62 (W : World) : Calls Tryz.prog 62 #[] W fun x W' => x = .returned (.agg TX) ∧ Below W.heap.size W W' := teams_any W
theorem x63 (W : World) : Calls Tryz.prog 63 #[] W fun x W' => ∃ A : Option Addr, x = .returned (.slice A 3 3) ∧ RdC W' A exL ∧ Below W.heap.size W W' :=
 (calls_any W).mono fun _ _ ⟨h1, h2, h3⟩ => ⟨_, h1, h2, h3⟩
theorem x37a (W : World) (A : Option Addr) (h : RdC W A exL) : Calls Tryz.prog 37 #[.agg TX, .slice A 3 3, .int .i64 1, .int .i64 1, .int .i64 2] W fun x W' => x = .returned (.tuple #[.string { data := #[98, 49] }, .int .i64 0]) ∧ Below W.heap.size W W' := by
 have := who_any exT exT_ok TX rfl exL A 3 3 rfl 1 1 2 W h
 rw [ex_who1] at this; exact this
theorem x37b (W : World) (A : Option Addr) (h : RdC W A exL) : Calls Tryz.prog 37 #[.agg TX, .slice A 3 3, .int .i64 2, .int .i64 1, .int .i64 2] W fun x W' => x = .returned (.tuple #[.string { data := #[98, 56] }, .int .i64 0]) ∧ Below W.heap.size W W' := by
 have := who_any exT exT_ok TX rfl exL A 3 3 rfl 2 1 2 W h
 rw [ex_who2] at this; exact this
theorem x36 (W : World) (A : Option Addr) (h : RdC W A exL) : Calls Tryz.prog 36 #[.agg TX, .slice A 3 3] W fun x W' => ∃ B0 m0 c0 B c, x = .returned (.tuple #[.agg #[.slice B0 m0 c0, .slice B 11 c], .int .i64 0]) ∧ Below W.heap.size W W' := by
 refine (names_any exT exT_ok TX rfl exL A 3 3 rfl W h).mono ?_
 rintro x W' ⟨⟨v0, v1, rfl, h0, h1⟩, hb⟩
 obtain ⟨B, c, rfl⟩ := slk_form h1
 obtain ⟨B0, c0, rfl⟩ := slk_form h0
 rw [ex_names, ex_cc]
 exact ⟨_, _, _, B, c, rfl, hb⟩
theorem x50 (W : World) (A : Option Addr) (h : RdC W A exL) : Calls Tryz.prog 50 #[.agg TX, .slice A 3 3, .int .i64 4, .int .i64 1] W fun x W' => ∃ B c, x = .returned (.tuple #[.slice B 2 c, .int .i64 0]) ∧ Rd W' B ([bs2 98 49, bs2 98 57].map .string) ∧ Below W.heap.size W W' := by
 refine (gone_any exT exT_ok TX rfl exL A 3 3 rfl 4 1 W h).mono ?_
 rintro x W' ⟨⟨v, rfl, h1⟩, hb⟩
 rw [ex_gone] at h1 ⊢
 obtain ⟨e, B, c, rfl, hr⟩ := h1
 exact ⟨B, c, rfl, hr, hb⟩
theorem two_sorted {a b : Sti} {S : List Sti} (h : S.Perm [a, b]) (hs : S.Pairwise (fun x y => x.fr ≤ y.fr)) (hlt : a.fr < b.fr) : S = [a, b] := by
 have hl := h.length_eq
 match S, hl with
 | [x, y], _ =>
  have hx : x = a ∨ x = b := by have := h.mem_iff.1 (show x ∈ [x, y] by simp); simpa using this
  have hy : y = a ∨ y = b := by have := h.mem_iff.1 (show y ∈ [x, y] by simp); simpa using this
  have h1 : x.fr ≤ y.fr := by simpa using hs
  rcases hx with rfl | rfl
  ·
   rcases hy with rfl | rfl
   ·
    have hb := h.mem_iff.2 (show b ∈ [y, b] by simp)
    have : b = y := by simpa using hb
    subst this; omega
   ·
    rfl
  ·
   rcases hy with rfl | rfl
   ·
    omega
   ·
    have ha := h.mem_iff.2 (show a ∈ [a, y] by simp)
    have : a = y := by simpa using ha
    subst this; omega
def exP : List Sti := [⟨1, 9, 1, bs2 98 57, 0, 4⟩, ⟨1, 9, 1, bs2 99 57, 4, 6⟩]
theorem x45 (W : World) (A : Option Addr) (h : RdC W A exL) : Calls Tryz.prog 45 #[.agg TX, .slice A 3 3, .int .i64 6, .int .i64 1] W fun x W' => ∃ B c, x = .returned (.tuple #[.slice B 2 c, .int .i64 0]) ∧ RdS W' B exP ∧ Below W.heap.size W W' := by
 refine (pitchers_any exT exT_ok TX rfl exL A 3 3 rfl 6 1 W h (fun _ => by rw [ex_pit]; decide)).mono ?_
 rintro x W' ⟨⟨B, m, c, S, rfl, hl, hr, hz, _⟩, hb⟩
 obtain ⟨hp, hs⟩ := hz ex_pitE
 rw [ex_pit] at hp
 have e := two_sorted hp hs (by decide)
 rw [e] at hl hr
 rw [ex_pitE]
 have : m = 2 := hl.symm
 subst this
 exact ⟨B, c, rfl, hr, hb⟩
theorem x51 (W : World) (A : Option Addr) (h : RdC W A exL) : Calls Tryz.prog 51 #[.agg TX, .slice A 3 3, .int .i64 6, .string { data := #[98, 49] }] W fun x W' => x = .returned (.tuple #[.int .i64 2, .int .i64 0]) ∧ Below W.heap.size W W' := by
 have := played_any exT exT_ok TX rfl exL A 3 3 rfl 6 (bs2 98 49) W h
 rw [ex_played] at this; exact this
theorem x14 (W : World) (A : Option Addr) (h : Rd W A (exCame.map .string)) : Calls Tryz.prog 14 #[.agg TX0, .int .i64 8, .slice A 4 4] W fun x W' => x = .returned (.tuple #[.agg #[.int .i64 2, .string { data := #[97, 49] }, .string { data := #[97, 50] }, .string { data := #[97, 50] }], .int .i64 0]) ∧ Below W.heap.size W W' := by
 have := deviate_any exT.l0 exT_ok.1 TX0 rfl 8 exCame A 4 4 rfl (by omega) W h
 rw [ex_dev] at this; exact this
theorem x15 (W : World) (A : Option Addr) (h : Rd W A (exCame.map .string)) : Calls Tryz.prog 15 #[.agg TX0, .int .i64 8, .slice A 4 4] W fun x W' => ∃ B c, x = .returned (.tuple #[.slice B 2 c, .int .i64 0]) ∧ Rd W' B ([2, 3].map (.int .i64)) ∧ Below W.heap.size W W' := by
 refine (improper_any exT.l0 exT_ok.1 TX0 rfl 8 exCame A 4 4 rfl (by omega) W h).mono ?_
 rintro x W' ⟨⟨v, rfl, h1⟩, hb⟩
 rw [ex_imp] at h1 ⊢
 obtain ⟨e, B, c, rfl, hr⟩ := h1
 exact ⟨B, c, rfl, hr, hb⟩
theorem itoaOk_env (W : World) (hE : Env W) (l : List Chg) (h : ∀ d ∈ l, d.play ≤ 256) : ItoaOk W l := fun X hX i h0 hi =>
 itoa_any i h0 (by
  rcases hi with hi | ⟨d, hd, rfl⟩
  ·
   omega
  ·
   have := h d hd; omega) X (env_below hE hX)
theorem x22 (W : World) (hE : Env W) (A : Option Addr) (h : RdC W A exL) : Calls Tryz.prog 22 #[.agg TX, .slice A 3 3] W fun x W' => x = .returned (.tuple #[.string (printR exT exL), .int .i64 0]) ∧ Below W.heap.size W W' := by
 have := print_any exT exT_ok TX rfl exL A 3 3 rfl W h (itoaOk_env W hE exL (by decide))
 rw [ex_cc] at this; exact this
theorem x25 (W : World) (hE : Env W) (hs : (printR exT exL).size ≤ 100000) : Calls Tryz.prog 25 #[.string (printR exT exL)] W fun x W' => ∃ B c, x = .returned (.tuple #[.agg TX, .slice B 3 c, .int .i64 0, .int .i64 0]) ∧ RdC W' B exL ∧ Below W.heap.size W W' := by
 refine (parse_any (printR exT exL) W hE (by omega)).mono ?_
 rintro x W' ⟨⟨v, rfl, h1⟩, hb⟩
 rw [ex_parse] at h1 ⊢
 obtain ⟨B, c, rfl⟩ := slk_form h1
 exact ⟨B, c, rfl, RdC.of_slk h1, hb⟩
theorem ex_size : (printR exT exL).size = 204 := by kernel_rfl
theorem ex_nine : ByteArray.toList ((printR exT exL).extract 0 9) = [48, 32, 49, 32, 97, 49, 32, 50, 10] := by rw [ByteArray.toList_eq]; kernel_rfl
theorem rdc_one {W : World} {A : Option Addr} (h : RdC W A exL) : ∃ b off, A = some ⟨b, off, none⟩ ∧ RdC W (some ⟨b, off + 5, none⟩) [⟨1, 2, 8, bs2 98 56, 2⟩] := by
 obtain ⟨b, off, rfl, hc⟩ := h 1 (by decide)
 refine ⟨b, off, rfl, fun k hk => ?_⟩
 obtain rfl : k = 0 := by simp at hk; omega
 exact ⟨b, off + 5, rfl, fun j hj => by have := hc j hj; rw [Nat.one_mul] at this; rw [Nat.zero_mul, Nat.add_zero]; exact this⟩
theorem x61 (W : World) (A : Option Addr) (c : Nat) (h : RdC W A [⟨1, 2, 8, bs2 98 56, 2⟩]) : Calls Tryz.prog 61 #[.agg TX, .slice A 1 c] W fun x W' => x = .returned (.int .i64 29) ∧ Below W.heap.size W W' := by
 have := checkChanges_pre exT exT_ok TX rfl [⟨1, 2, 8, bs2 98 56, 2⟩] A 1 c rfl W h
 rw [ex_cc2] at this; exact this
theorem x30 (W : World) (A B : Option Addr) (c d : Nat) (h1 : RdC W A exL) (h2 : RdC W B exL) : Calls Tryz.prog 30 #[.slice A 3 c, .slice B 3 d] W fun x W' => x = .returned (.bool true) ∧ Below W.heap.size W W' :=
 (sameChanges_any exL exL A B 3 3 c d W rfl rfl (by omega) h1 h2).mono fun _ _ ⟨e, q, hw⟩ => ⟨by rw [e]; rfl, by rw [hw]; exact bt_drewN (Below.refl _ _) q⟩
theorem x64 (W : World) (A B : Option Addr) (c d : Nat) (h1 : RdS W A exP) (h2 : RdS W B exP) : Calls Tryz.prog 64 #[.slice A 2 c, .slice B 2 d] W fun x W' => x = .returned (.bool true) ∧ Below W.heap.size W W' :=
 (sameStints_any exP exP A B 2 2 c d W rfl rfl (by omega) h1 h2).mono fun _ _ ⟨e, q, hw⟩ => ⟨by rw [e]; rfl, by rw [hw]; exact bt_drewN (Below.refl _ _) q⟩
theorem x32 (W : World) (A B : Option Addr) (c d : Nat) (h1 : Rd W A ([bs2 98 49, bs2 98 57].map .string)) (h2 : Rd W B ([bs2 98 49, bs2 98 57].map .string)) : Calls Tryz.prog 32 #[.slice A 2 c, .slice B 2 d] W fun x W' => x = .returned (.bool true) ∧ Below W.heap.size W W' :=
 (sameWords_any _ _ A B 2 2 c d W rfl rfl (by omega) h1 h2).mono fun _ _ ⟨e, q, hw⟩ => ⟨by rw [e]; rfl, by rw [hw]; exact bt_drewN (Below.refl _ _) q⟩
theorem x19 (W : World) (A B : Option Addr) (c d : Nat) (h1 : Rd W A ([2, 3].map (.int .i64))) (h2 : Rd W B ([2, 3].map (.int .i64))) : Calls Tryz.prog 19 #[.slice A 2 c, .slice B 2 d] W fun x W' => x = .returned (.bool true) ∧ Below W.heap.size W W' :=
 (sameInts_any [2, 3] [2, 3] A B 2 2 c d W rfl rfl (by omega) h1 h2).mono fun _ _ ⟨e, q, hw⟩ => ⟨by rw [e]; rfl, by rw [hw]; exact bt_drewN (Below.refl _ _) q⟩
theorem x31 (W : World) (A : Option Addr) (c : Nat) (h : RdC W A exL) : Calls Tryz.prog 31 #[.slice A 3 c] W fun x W' => ∃ B d, x = .returned (.slice B 3 d) ∧ RdC W' B exL ∧ Below W.heap.size W W' := by
 refine (changes_any exL A 3 c rfl (by omega) W h).mono ?_
 rintro x W' ⟨⟨v, rfl, h1⟩, hb⟩
 obtain ⟨B, d, rfl⟩ := slk_form h1
 exact ⟨B, d, rfl, RdC.of_slk h1, hb⟩
theorem x65 (W : World) (A : Option Addr) (c : Nat) (h : RdS W A exP) : Calls Tryz.prog 65 #[.slice A 2 c] W fun x W' => ∃ B d, x = .returned (.slice B 2 d) ∧ RdS W' B exP ∧ Below W.heap.size W W' := by
 refine (stintsLaw_any exP A 2 c rfl (by omega) W h).mono ?_
 rintro x W' ⟨⟨v, rfl, h1⟩, hb⟩
 obtain ⟨B, d, rfl⟩ := slk_form h1
 exact ⟨B, d, rfl, RdS.of_slk h1, hb⟩
theorem rd_strs (W : World) (xs : List Value) : Rd (W.alloc (.cells xs.toArray 9)) (some ⟨W.heap.size, 0, none⟩) xs := .of_cells fun k hk => by
 rw [(Bk.new W 9 _).cell, List.getElem?_toArray, Nat.zero_add]
theorem rd_ints (W : World) (xs : List Value) : Rd (W.alloc (.cells xs.toArray 3)) (some ⟨W.heap.size, 0, none⟩) xs := .of_cells fun k hk => by
 rw [(Bk.new W 3 _).cell, List.getElem?_toArray, Nat.zero_add]
theorem rds_new (W : World) (t : TypeId) : RdS (W.alloc (.cells #[.int .i64 1, .int .i64 9, .int .i64 1, .string { data := #[98, 57] }, .int .i64 0, .int .i64 4, .int .i64 1, .int .i64 9, .int .i64 1, .string { data := #[99, 57] }, .int .i64 4, .int .i64 6] t)) (some ⟨W.heap.size, 0, none⟩) exP := fun k hk => by
 refine ⟨W.heap.size, 0, rfl, fun j hj => ?_⟩
 rw [(Bk.new W t _).cell]
 have hk2 : k = 0 ∨ k = 1 := by simp [exP] at hk; omega
 have hj6 : j = 0 ∨ j = 1 ∨ j = 2 ∨ j = 3 ∨ j = 4 ∨ j = 5 := by omega
 rcases hk2 with rfl | rfl <;> rcases hj6 with rfl | rfl | rfl | rfl | rfl | rfl <;> rfl

set_option maxHeartbeats 8000000 in
set_option maxRecDepth 100000 in
theorem awake_any (w : World) (hE : Env w) : Calls Tryz.prog 13 #[] w fun x w' => x = .returned (.bool true) ∧ Below w.heap.size w w' := by
 have hix : ∀ W, (Instr.index 54 (.agg TX) (.int .i64 0)).run Tryz.prog W = .ok (.agg TX0) W := fun W => run_index54 W exT exT_ok 0 (by omega)
 obtain ⟨P, kP, hP, oP⟩ : ∃ P : World → Prop, Keep P ∧ P w ∧ Hid (∀ X, P X → Below w.heap.size w X ∧ Env X) := ⟨fun X => Below w.heap.size w X ∧ Env X, keep_and (keep_below w) keep_env, ⟨Below.refl _ _, hE⟩, fun _ h => h⟩
 clear hE
 go_enter Tryz.func13, Tryz.ntmps13
 go_wp2_with fail
 refine (x62 _).mono ?_
 rintro e t1 ⟨rfl, hb⟩
 replace hP := kP _ _ hP hb
 clear hb
 go_wp2_with fail
 refine (x63 _).mono ?_
 rintro e t2 ⟨A2, rfl, hrd, hb⟩
 replace hP := kP _ _ hP hb
 have Hrd := Lib.hid hrd
 clear hb hrd
 go_wp2_with fail
 refine (x37a _ _ Hrd.out).mono ?_
 rintro e y2 ⟨rfl, hb⟩
 replace hP := kP _ _ hP hb
 clear hb Hrd
 go_wp2_with fail
 refine (x62 _).mono ?_
 rintro e t3 ⟨rfl, hb⟩
 replace hP := kP _ _ hP hb
 clear hb
 go_wp2_with fail
 refine (x63 _).mono ?_
 rintro e t4 ⟨A4, rfl, hrd, hb⟩
 replace hP := kP _ _ hP hb
 have Hrd := Lib.hid hrd
 clear hb hrd
 go_wp2_with fail
 refine (x37b _ _ Hrd.out).mono ?_
 rintro e y4 ⟨rfl, hb⟩
 replace hP := kP _ _ hP hb
 clear hb Hrd
 go_wp2_with fail
 refine (x62 _).mono ?_
 rintro e t5 ⟨rfl, hb⟩
 replace hP := kP _ _ hP hb
 clear hb
 go_wp2_with fail
 refine (x63 _).mono ?_
 rintro e t6 ⟨A6, rfl, hrd, hb⟩
 replace hP := kP _ _ hP hb
 have Hrd := Lib.hid hrd
 clear hb hrd
 go_wp2_with fail
 refine (x36 _ _ Hrd.out).mono ?_
 rintro e y6 ⟨B0, m0, c0, BN, cN, rfl, hb⟩
 replace hP := kP _ _ hP hb
 clear hb Hrd
 go_upto_region 4 with fail
 have hbl := bt_new y6 (.cells #[.slice B0 m0 c0, .slice BN 11 cN] 75)
 replace hP := kP _ _ hP hbl
 have hbkN := Bk.new y6 75 #[.slice B0 m0 c0, .slice BN 11 cN]
 clear hbl
 generalize (y6.alloc (.cells #[.slice B0 m0 c0, .slice BN 11 cN] 75)) = Y6 at hP hbkN ⊢
 generalize y6.heap.size = gN at hbkN ⊢
 obtain ⟨P1, kP1, hP1, oP1⟩ : ∃ P1 : World → Prop, Keep P1 ∧ P1 Y6 ∧ Hid (∀ X, P1 X → P X ∧ Bk X gN 75 #[.slice B0 m0 c0, .slice BN 11 cN]) := ⟨fun X => P X ∧ Bk X gN 75 #[.slice B0 m0 c0, .slice BN 11 cN], keep_and kP (keep_bk _ _ _), ⟨hP, hbkN⟩, fun _ h => h⟩
 clear kP hP hbkN
 go_wp2_with fail
 refine (x62 _).mono ?_
 rintro e t7 ⟨rfl, hb⟩
 replace hP1 := kP1 _ _ hP1 hb
 clear hb
 go_wp2_with fail
 refine (x63 _).mono ?_
 rintro e t8 ⟨A8, rfl, hrd, hb⟩
 replace hP1 := kP1 _ _ hP1 hb
 have Hrd := Lib.hid hrd
 clear hb hrd
 go_wp2_with fail
 refine (x50 _ _ Hrd.out).mono ?_
 rintro e y8 ⟨BG, cG, rfl, hrg, hb⟩
 replace hP1 := kP1 _ _ hP1 hb
 clear hb Hrd
 obtain ⟨P2, kP2, hP2, oP2⟩ : ∃ P2 : World → Prop, Keep P2 ∧ P2 y8 ∧ Hid (∀ X, P2 X → P1 X ∧ Rd X BG ([bs2 98 49, bs2 98 57].map .string)) := ⟨fun X => P1 X ∧ Rd X BG ([bs2 98 49, bs2 98 57].map .string), keep_and kP1 (keep_rd _ _), ⟨hP1, hrg⟩, fun _ h => h⟩
 clear kP1 hP1 hrg
 go_wp2_with fail
 refine (x62 _).mono ?_
 rintro e t9 ⟨rfl, hb⟩
 replace hP2 := kP2 _ _ hP2 hb
 clear hb
 go_wp2_with fail
 refine (x63 _).mono ?_
 rintro e t10 ⟨A10, rfl, hrd, hb⟩
 replace hP2 := kP2 _ _ hP2 hb
 have Hrd := Lib.hid hrd
 clear hb hrd
 go_wp2_with fail
 refine (x45 _ _ Hrd.out).mono ?_
 rintro e y10 ⟨BP, cP, rfl, hrp, hb⟩
 replace hP2 := kP2 _ _ hP2 hb
 clear hb Hrd
 obtain ⟨P3, kP3, hP3, oP3⟩ : ∃ P3 : World → Prop, Keep P3 ∧ P3 y10 ∧ Hid (∀ X, P3 X → P2 X ∧ RdS X BP exP) := ⟨fun X => P2 X ∧ RdS X BP exP, keep_and kP2 (keep_rds _ _), ⟨hP2, hrp⟩, fun _ h => h⟩
 clear kP2 hP2 hrp
 go_wp2_with fail
 refine (x62 _).mono ?_
 rintro e t11 ⟨rfl, hb⟩
 replace hP3 := kP3 _ _ hP3 hb
 clear hb
 go_wp2_with fail
 refine (x63 _).mono ?_
 rintro e t12 ⟨A12, rfl, hrd, hb⟩
 replace hP3 := kP3 _ _ hP3 hb
 have Hrd := Lib.hid hrd
 clear hb hrd
 go_wp2_with fail
 refine (x51 _ _ Hrd.out).mono ?_
 rintro e y12 ⟨rfl, hb⟩
 replace hP3 := kP3 _ _ hP3 hb
 clear hb Hrd
 go_wp2_with fail
 refine (x62 _).mono ?_
 rintro e t14 ⟨rfl, hb⟩
 replace hP3 := kP3 _ _ hP3 hb
 clear hb
 have hrc := rd_strs t14 (exCame.map .string)
 have hbl := bt_new t14 (.cells (exCame.map Value.string).toArray 9)
 replace hP3 := kP3 _ _ hP3 hbl
 have Hrc := Lib.hid hrc
 clear hbl hrc
 go_wp2_with fail
 refine (x14 _ _ Hrc.out).mono ?_
 rintro e y14 ⟨rfl, hb⟩
 replace hP3 := kP3 _ _ hP3 hb
 clear hb Hrc
 go_upto_region 8 with fail
 have hbl := bt_new y14 (.cells #[.int .i64 2, .string { data := #[97, 49] }, .string { data := #[97, 50] }, .string { data := #[97, 50] }] 29)
 replace hP3 := kP3 _ _ hP3 hbl
 have hbkD := Bk.new y14 29 #[.int .i64 2, .string { data := #[97, 49] }, .string { data := #[97, 50] }, .string { data := #[97, 50] }]
 clear hbl
 generalize (y14.alloc (.cells #[.int .i64 2, .string { data := #[97, 49] }, .string { data := #[97, 50] }, .string { data := #[97, 50] }] 29)) = Y14 at hP3 hbkD ⊢
 generalize y14.heap.size = gD at hbkD ⊢
 obtain ⟨P4, kP4, hP4, oP4⟩ : ∃ P4 : World → Prop, Keep P4 ∧ P4 Y14 ∧ Hid (∀ X, P4 X → P3 X ∧ Bk X gD 29 #[.int .i64 2, .string { data := #[97, 49] }, .string { data := #[97, 50] }, .string { data := #[97, 50] }]) := ⟨fun X => P3 X ∧ Bk X gD 29 #[.int .i64 2, .string { data := #[97, 49] }, .string { data := #[97, 50] }, .string { data := #[97, 50] }], keep_and kP3 (keep_bk _ _ _), ⟨hP3, hbkD⟩, fun _ h => h⟩
 clear kP3 hP3 hbkD
 go_wp2_with fail
 refine (x62 _).mono ?_
 rintro e t15 ⟨rfl, hb⟩
 replace hP4 := kP4 _ _ hP4 hb
 clear hb
 have hrc := rd_strs t15 (exCame.map .string)
 have hbl := bt_new t15 (.cells (exCame.map Value.string).toArray 9)
 replace hP4 := kP4 _ _ hP4 hbl
 have Hrc := Lib.hid hrc
 clear hbl hrc
 go_wp2_with fail
 refine (x15 _ _ Hrc.out).mono ?_
 rintro e y15 ⟨BI, cI, rfl, hri, hb⟩
 replace hP4 := kP4 _ _ hP4 hb
 clear hb Hrc
 obtain ⟨P5, kP5, hP5, oP5⟩ : ∃ P5 : World → Prop, Keep P5 ∧ P5 y15 ∧ Hid (∀ X, P5 X → P4 X ∧ Rd X BI ([2, 3].map (.int .i64))) := ⟨fun X => P4 X ∧ Rd X BI ([2, 3].map (.int .i64)), keep_and kP4 (keep_rd _ _), ⟨hP4, hri⟩, fun _ h => h⟩
 clear kP4 hP4 hri
 have oE : Hid (∀ X, P5 X → Env X) := fun X h => (oP.out X (oP1.out X (oP2.out X (oP3.out X (oP4.out X (oP5.out X h).1).1).1).1).1).2
 go_wp2_with fail
 refine (x62 _).mono ?_
 rintro e t16 ⟨rfl, hb⟩
 replace hP5 := kP5 _ _ hP5 hb
 clear hb
 go_wp2_with fail
 refine (x63 _).mono ?_
 rintro e t17 ⟨A17, rfl, hrd, hb⟩
 replace hP5 := kP5 _ _ hP5 hb
 have Hrd := Lib.hid hrd
 clear hb hrd
 have hs204 := ex_size
 have hs9 := ex_nine
 have H22 := Lib.hid (x22 _ (oE.out _ hP5) _ Hrd.out)
 have H25 : Hid (∀ W, Env W → Calls Tryz.prog 25 #[.string (printR exT exL)] W fun x W' => ∃ B c, x = .returned (.tuple #[.agg TX, .slice B 3 c, .int .i64 0, .int .i64 0]) ∧ RdC W' B exL ∧ Below W.heap.size W W') := fun W h => x25 W h (by rw [ex_size]; omega)
 generalize printR exT exL = S at hs204 hs9 H22 H25
 have Hs204 := Lib.hid hs204; have Hs9 := Lib.hid hs9
 clear hs204 hs9
 go_wp2_with fail
 refine H22.out.mono ?_
 rintro e y17 ⟨rfl, hb⟩
 replace hP5 := kP5 _ _ hP5 hb
 clear hb Hrd H22
 go_wp2_with fail
 refine (H25.out _ (oE.out _ hP5)).mono ?_
 rintro e z17 ⟨BL, cL, rfl, hrl, hb⟩
 replace hP5 := kP5 _ _ hP5 hb
 clear hb H25
 obtain ⟨P6, kP6, hP6, oP6⟩ : ∃ P6 : World → Prop, Keep P6 ∧ P6 z17 ∧ Hid (∀ X, P6 X → P5 X ∧ RdC X BL exL) := ⟨fun X => P5 X ∧ RdC X BL exL, keep_and kP5 (keep_rdc _ _), ⟨hP5, hrl⟩, fun _ h => h⟩
 clear kP5 hP5 hrl
 have Hth := Lib.hid (x54_there z17)
 have Hi2 : Hid ((Tryz.prog.info? 54).map (·.size) = some TX.size) := info54s TX.size TX_size
 have Hone : Hid (TX.all (·.oneCell') = true) := Tms.oneCell exT
 go_upto_region 11 with ((with_reducible refine wpList_store_mid rfl 54 (.tmp 19) (.tmp 82) rfl z17.heap.size 0 TX ?_ ?_ Hth.out Hi2.out Hone.out ?_); (exact rfl); (exact rfl))
 have hbl := below_sets (Nat.le_refl _) (bt_new z17 (.cells #[.string { data := #[] }, .string { data := #[] }, .string { data := #[] }, .string { data := #[] }, .string { data := #[] }, .string { data := #[] }, .string { data := #[] }, .string { data := #[] }, .string { data := #[] }, .int .i64 0, .int .i64 0, .int .i64 0, .int .i64 0, .int .i64 0, .int .i64 0, .int .i64 0, .int .i64 0, .int .i64 0, .string { data := #[] }, .string { data := #[] }, .string { data := #[] }, .string { data := #[] }, .string { data := #[] }, .string { data := #[] }, .string { data := #[] }, .string { data := #[] }, .string { data := #[] }, .int .i64 0, .int .i64 0, .int .i64 0, .int .i64 0, .int .i64 0, .int .i64 0, .int .i64 0, .int .i64 0, .int .i64 0] 54)) TX.toList 0
 replace hP6 := kP6 _ _ hP6 hbl
 clear hbl Hth
 generalize ((z17.alloc (.cells #[.string { data := #[] }, .string { data := #[] }, .string { data := #[] }, .string { data := #[] }, .string { data := #[] }, .string { data := #[] }, .string { data := #[] }, .string { data := #[] }, .string { data := #[] }, .int .i64 0, .int .i64 0, .int .i64 0, .int .i64 0, .int .i64 0, .int .i64 0, .int .i64 0, .int .i64 0, .int .i64 0, .string { data := #[] }, .string { data := #[] }, .string { data := #[] }, .string { data := #[] }, .string { data := #[] }, .string { data := #[] }, .string { data := #[] }, .string { data := #[] }, .string { data := #[] }, .int .i64 0, .int .i64 0, .int .i64 0, .int .i64 0, .int .i64 0, .int .i64 0, .int .i64 0, .int .i64 0, .int .i64 0] 54)).setCells z17.heap.size 0 TX.toList) = Y17 at hP6 ⊢
 generalize z17.heap.size = gT
 have k225 : (S.size : Int) = 204 := by rw [Hs204.out]; rfl
 have k9 := Hs9.out
 have ks : 9 ≤ S.size := by rw [Hs204.out]; omega
 go_upto_region 13 with fail
 clear k225 k9 ks
 have oN : Hid (∀ X, P6 X → Bk X gN 75 #[.slice B0 m0 c0, .slice BN 11 cN]) := fun X h => (oP1.out X (oP2.out X (oP3.out X (oP4.out X (oP5.out X (oP6.out X h).1).1).1).1).1).2
 have oG : Hid (∀ X, P6 X → Rd X BG ([bs2 98 49, bs2 98 57].map .string)) := fun X h => (oP2.out X (oP3.out X (oP4.out X (oP5.out X (oP6.out X h).1).1).1).1).2
 have oS : Hid (∀ X, P6 X → RdS X BP exP) := fun X h => (oP3.out X (oP4.out X (oP5.out X (oP6.out X h).1).1).1).2
 have oD : Hid (∀ X, P6 X → Bk X gD 29 #[.int .i64 2, .string { data := #[97, 49] }, .string { data := #[97, 50] }, .string { data := #[97, 50] }]) := fun X h => (oP4.out X (oP5.out X (oP6.out X h).1).1).2
 have oI : Hid (∀ X, P6 X → Rd X BI ([2, 3].map (.int .i64))) := fun X h => (oP5.out X (oP6.out X h).1).2
 have oL : Hid (∀ X, P6 X → RdC X BL exL) := fun X h => (oP6.out X h).2
 have oW : Hid (∀ X, P6 X → Below w.heap.size w X) := fun X h => (oP.out X (oP1.out X (oP2.out X (oP3.out X (oP4.out X (oP5.out X (oP6.out X h).1).1).1).1).1).1).1
 have cN1 : Y17.cell? ⟨gN, 1, none⟩ = some (.slice BN 11 cN) := by rw [(oN.out _ hP6).cell]; rfl
 have hrw := rd_strs Y17 ([bs2 98 49, bs2 98 57].map .string)
 have hbl := bt_new Y17 (.cells ([bs2 98 49, bs2 98 57].map Value.string).toArray 9)
 replace hP6 := kP6 _ _ hP6 hbl
 have Hrw := Lib.hid hrw
 clear hbl hrw
 go_wp2_with fail
 refine (x32 _ _ _ _ _ (oG.out _ hP6) Hrw.out).mono ?_
 rintro e u1 ⟨rfl, hb⟩
 replace hP6 := kP6 _ _ hP6 hb
 clear hb Hrw cN1
 go_wp2_with fail
 refine (x65 _ _ _ (oS.out _ hP6)).mono ?_
 rintro e u2 ⟨B2, d2, rfl, hr2, hb⟩
 replace hP6 := kP6 _ _ hP6 hb
 have hbl := bt_new u2 (.cells #[.int .i64 1, .int .i64 9, .int .i64 1, .string { data := #[98, 57] }, .int .i64 0, .int .i64 4, .int .i64 1, .int .i64 9, .int .i64 1, .string { data := #[99, 57] }, .int .i64 4, .int .i64 6] 124)
 replace hP6 := kP6 _ _ hP6 hbl
 have Hr2 := Lib.hid (hr2.below hbl)
 have Hr3 := Lib.hid (rds_new u2 124)
 clear hb hbl hr2
 go_wp2_with fail
 refine (x64 _ _ _ _ _ Hr2.out Hr3.out).mono ?_
 rintro e u3 ⟨rfl, hb⟩
 replace hP6 := kP6 _ _ hP6 hb
 clear hb Hr2 Hr3
 have d0 : u3.cell? ⟨gD, 0, none⟩ = some (.int .i64 2) := by rw [(oD.out _ hP6).cell]; rfl
 have d1 : u3.cell? ⟨gD, 1, none⟩ = some (.string { data := #[97, 49] }) := by rw [(oD.out _ hP6).cell]; rfl
 have d2' : u3.cell? ⟨gD, 2, none⟩ = some (.string { data := #[97, 50] }) := by rw [(oD.out _ hP6).cell]; rfl
 have d3 : u3.cell? ⟨gD, 3, none⟩ = some (.string { data := #[97, 50] }) := by rw [(oD.out _ hP6).cell]; rfl
 have hdq : ∀ W, (binOp .eql 29 (.agg #[.int .i64 2, .string { data := #[97, 49] }, .string { data := #[97, 50] }, .string { data := #[97, 50] }]) (.agg #[.int .i64 2, .string { data := #[97, 49] }, .string { data := #[97, 50] }, .string { data := #[97, 50] }])).run Tryz.prog W = .ok (.bool true) W := fun W => op_eql29 W ⟨2, bs2 97 49, bs2 97 50, bs2 97 50⟩ ⟨2, bs2 97 49, bs2 97 50, bs2 97 50⟩
 have hri := rd_ints u3 ([2, 3].map (.int .i64))
 have hbl := bt_new u3 (.cells ([2, 3].map (Value.int .i64)).toArray 3)
 replace hP6 := kP6 _ _ hP6 hbl
 have Hri := Lib.hid hri
 clear hbl hri
 go_wp2_with fail
 refine (x19 _ _ _ _ _ (oI.out _ hP6) Hri.out).mono ?_
 rintro e u4 ⟨rfl, hb⟩
 replace hP6 := kP6 _ _ hP6 hb
 clear hb Hri d0 d1 d2' d3 hdq
 go_wp2_with fail
 refine (x31 _ _ _ (oL.out _ hP6)).mono ?_
 rintro e u5 ⟨B5, d5, rfl, hr5, hb⟩
 replace hP6 := kP6 _ _ hP6 hb
 have Hr5 := Lib.hid hr5
 clear hb hr5
 go_wp2_with fail
 refine (x63 _).mono ?_
 rintro e u6 ⟨B6, rfl, hr6, hb⟩
 replace hP6 := kP6 _ _ hP6 hb
 replace Hr5 := Lib.hid (Hr5.out.below hb)
 have Hr6 := Lib.hid hr6
 clear hb hr6
 go_wp2_with fail
 refine (x31 _ _ _ Hr6.out).mono ?_
 rintro e u7 ⟨B7, d7, rfl, hr7, hb⟩
 replace hP6 := kP6 _ _ hP6 hb
 replace Hr5 := Lib.hid (Hr5.out.below hb)
 have Hr7 := Lib.hid hr7
 clear hb hr7 Hr6
 go_wp2_with fail
 refine (x30 _ _ _ _ _ Hr5.out Hr7.out).mono ?_
 rintro e u8 ⟨rfl, hb⟩
 replace hP6 := kP6 _ _ hP6 hb
 clear hb Hr5 Hr7
 go_wp2_with fail
 refine (x62 _).mono ?_
 rintro e u9 ⟨rfl, hb⟩
 replace hP6 := kP6 _ _ hP6 hb
 clear hb
 go_wp2_with fail
 refine (x63 _).mono ?_
 rintro e v1 ⟨BV, rfl, hrv, hb⟩
 replace hP6 := kP6 _ _ hP6 hb
 obtain ⟨bb, of, rfl, hrv1⟩ := rdc_one hrv
 have Hrv := Lib.hid hrv1
 clear hb hrv hrv1
 go_wp2_with fail
 refine (x61 _ _ _ Hrv.out).mono ?_
 rintro e v2 ⟨rfl, hb⟩
 replace hP6 := kP6 _ _ hP6 hb
 clear hb Hrv
 go_wp2
 go_ret
 exact ⟨rfl, oW.out _ hP6⟩
end Go.Proofs.YtmagppkclnebjaaGreatDoor
