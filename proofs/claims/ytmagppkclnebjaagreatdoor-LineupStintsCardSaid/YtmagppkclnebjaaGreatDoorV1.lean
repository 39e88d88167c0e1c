/- The reference: Stints. -/
import Derived.Test.YtmagppkclnebjaaGreatDoorH3
import Derived.Test.YtmagppkclnebjaaGreatDoorD0
import Derived.Test.YtmagppkclnebjaaGreatDoorQp
import Derived.Laws.OwnMore
import Derived.Deep.Cut
import Derived.Deep.CutRange
import Derived.Deep.AppendLies
set_option linter.unusedVariables false
set_option linter.unusedSimpArgs false
set_option linter.unusedSimpArgs false
set_option linter.unusedVariables false
namespace Go.Proofs.YtmagppkclnebjaaGreatDoor
open Go.RowKit
open L

namespace L
def hA (t : Tms) (l : List Chg) (side slot : Int) (k : Nat) : Str × Int := (atAll t l k).who side slot
/-- the stints of the first j slots of a side, as the reference builds them -/
def slotsR (t : Tms) (l : List Chg) (N sd j : Nat) : List Sti := (List.range j).flatMap fun (i : Nat) => refSt (hA t l sd ((i : Int) + 1)) sd ((i : Int) + 1) N
/-- the stints of the first s sides -/
def sidesR (t : Tms) (l : List Chg) (N s : Nat) : List Sti := (List.range s).flatMap fun (sd : Nat) => slotsR t l N sd 9
theorem slotsR_succ (t : Tms) (l : List Chg) (N sd j : Nat) : slotsR t l N sd (j + 1) = slotsR t l N sd j ++ refSt (hA t l sd ((j : Int) + 1)) sd ((j : Int) + 1) N := by
 unfold slotsR; rw [List.range_succ, List.flatMap_append]; simp
theorem sidesR_succ (t : Tms) (l : List Chg) (N s : Nat) : sidesR t l N (s + 1) = sidesR t l N s ++ slotsR t l N s 9 := by
 unfold sidesR; rw [List.range_succ, List.flatMap_append]; simp
theorem flat_congr {α β : Type} (f g : α → List β) : ∀ l : List α, (∀ a ∈ l, f a = g a) → l.flatMap f = l.flatMap g
 | [], _ => rfl
 | a :: r, h => by rw [List.flatMap_cons, List.flatMap_cons, h a (by simp), flat_congr f g r (fun b hb => h b (by simp [hb]))]
theorem hA_eq {t : Tms} {l : List Chg} (h : checkChanges t l = 0) (side slot : Int) : hA t l side slot = hwo t l side slot := by
 funext k
 unfold hA hwo
 rw [atAll_eq l t k (plays_sorted (cc_sorted h))]
theorem slotsR_eq {t : Tms} {l : List Chg} (ht : t.ok) (h : checkChanges t l = 0) (N sd : Nat) (hs : (sd : Int) = 0 ∨ (sd : Int) = 1) : slotsR t l N sd 9 = sideL t l N sd 9 := by
 unfold slotsR sideL
 refine flat_congr _ _ _ fun j hj => ?_
 have hj9 := List.mem_range.1 hj
 rw [hA_eq h, stints_ref ht h sd ((j : Int) + 1) hs ⟨by omega, by omega⟩]
theorem sidesR_eq {t : Tms} {l : List Chg} (ht : t.ok) (h : checkChanges t l = 0) (N : Nat) : sidesR t l N 2 = allL t l N := by
 rw [sidesR_succ, sidesR_succ, slotsR_eq ht h N 0 (.inl rfl), slotsR_eq ht h N 1 (.inr rfl)]
 rfl
theorem refSt_succ (h : Nat → Str × Int) (side slot : Int) (k : Nat) : refSt h side slot (k + 1) = refStep h side slot k (refSt h side slot k) := rfl
theorem refSt_ne (h : Nat → Str × Int) (side slot : Int) (k : Nat) (hk : 0 < k) : refSt h side slot k ≠ [] := fun e => by
 have ih := refSt_cov h side slot k
 rw [e] at ih
 have : (0 : Nat) = k := ih
 omega
theorem refStep_nil (h : Nat → Str × Int) (side slot : Int) (k : Nat) : refStep h side slot k [] = [⟨side, slot, (h k).2, (h k).1, k, k + 1⟩] := rfl
theorem refStep_snoc (h : Nat → Str × Int) (side slot : Int) (k : Nat) (S : List Sti) (s : Sti) : refStep h side slot k (S ++ [s]) = if s.name = (h k).1 ∧ s.pos = (h k).2 then S ++ [⟨s.side, s.slot, s.pos, s.name, s.fr, k + 1⟩] else S ++ [s] ++ [⟨side, slot, (h k).2, (h k).1, k, k + 1⟩] := by
 unfold refStep
 rw [List.getLast?_append]
 simp
theorem refSt_len (h : Nat → Str × Int) (side slot : Int) : ∀ k, (refSt h side slot k).length ≤ k
 | 0 => Nat.le_refl _
 | k + 1 => by
  have ih := refSt_len h side slot k
  rw [refSt_succ]
  rcases List.eq_nil_or_concat (refSt h side slot k) with e | ⟨S, s, e⟩
  ·
   rw [e, refStep_nil]; simp
  ·
   rw [List.concat_eq_append] at e
   rw [e] at ih ⊢
   rw [refStep_snoc]
   rw [List.length_append, List.length_singleton] at ih
   split <;> simp <;> omega
end L
theorem flatS_last (Q : List Sti) (s : Sti) (v : Int) : (flatS (Q ++ [s])).set (Q.length * 6 + 5) (.int .i64 v) = flatS (Q ++ [⟨s.side, s.slot, s.pos, s.name, s.fr, v⟩]) := by
 rw [flatS_append, flatS_append, flatS_one, flatS_one, List.set_append_right _ _ (by rw [flatS_len]; omega), flatS_len, show Q.length * 6 + 5 - Q.length * 6 = 5 by omega]
 rfl
theorem own_setsNe {W : World} {base : Nat} {e : TypeId} {size n g : Nat} {v : Value} {xs : List Value} (h : W.ownsRow base e size v n xs) (hne : ∀ r, v.ownBlock = some r → r ≠ g) (vs : List Value) (o : Nat) : (W.setCells g o vs).ownsRow base e size v n xs := by
 have hb := below_sets (B := 0) (Nat.zero_le g) (Below.refl 0 W) vs o
 refine h.kept (show W.grownBy (W.setCells g o vs) (some g) from ⟨hb.os, hb.tape, hb.output, hb.size, fun i _ hne => sets_block (fun e => hne (by rw [e])) vs o W⟩) ?_
 cases hv : v.ownBlock with
 | none => exact .inl rfl
 | some r => exact .inr (fun e => hne r hv (Option.some.inj e))
theorem own_off {W : World} {base : Nat} {e : TypeId} {size n m b off c : Nat} {sp : Option Nat} {xs : List Value} (h : W.ownsRow base e size (.slice (some ⟨b, off, sp⟩) m c) n xs) : off = 0 ∧ base ≤ b ∧ n = m := by
 rcases h.2 with ⟨h', _⟩ | ⟨g, cap, cur, h', hb, _⟩
 ·
  simp at h'
 ·
  simp only [Value.slice.injEq, Option.some.injEq, Addr.mk.injEq] at h'
  obtain ⟨⟨rfl, rfl, _⟩, rfl, _⟩ := h'
  exact ⟨rfl, hb, rfl⟩

set_option maxHeartbeats 8000000 in
set_option maxRecDepth 100000 in
theorem refStints_any (t : Tms) (ht : t.ok) (T : Array Value) (hT : T = t.cells.toArray) (l : List Chg) (A : Option Addr) (n c : Nat) (hn : l.length = n) (hle : n ≤ 1000) (hok : ∀ d ∈ l, d.okS) (N : Nat) (hN : N ≤ 1000) (w : World) (hl : RdC w A l) :
 Calls Tryz.prog 46 #[.agg T, .slice A n c, .int .i64 N] w fun x w' => (∃ v, x = .returned v ∧ SlK 6 w' v (sidesR t l N 2).length (flatS (sidesR t l N 2))) ∧ Below w.heap.size w w' := by
 obtain ⟨i0, hi, hz0, hz1, hz2⟩ := info_parts info124
 have F : Hid (Below w.heap.size w (w.alloc (.cells T 46)) ∧ Bk (w.alloc (.cells T 46)) w.heap.size 46 t.cells.toArray) := ⟨bt_new w _, by rw [← hT]; exact Bk.new w 46 T⟩
 have H40 : Hid (∀ W (k : Int), Below w.heap.size w W → Calls Tryz.prog 40 #[.agg t.cells.toArray, .slice A n c, .int .i64 k] W fun x w' => x = .returned (.agg (atAll t l k).cells.toArray) ∧ Below W.heap.size W w') := fun W k hb => refAt_any t ht _ rfl l A n c hn hle hok k W (hl.below hb)
 have Hi := Lib.hid (info46s t.cells.toArray.size (Tms.size36 t ht))
 have Hok2 : Hid (∀ k, (atAll t l k).ok) := fun k => atAll_ok l t k ht
 clear hT ht hn hl hok
 generalize t.cells = tc at F H40 Hi
 go_enter Tryz.func46, Tryz.ntmps46
 go_upto_region 3 with fail
 generalize (w.alloc (.cells T 46)) = W0 at F ⊢
 go_loopw [7, 8] (fun v i wr => ∃ sd : Nat, sd ≤ 2 ∧ i = .int .i64 sd ∧ Below w.heap.size w wr ∧ Bk wr w.heap.size 46 tc.toArray ∧ wr.ownsRow (w.heap.size + 1) 124 6 v (sidesR t l N sd).length (flatS (sidesR t l N sd)) ∧ (sidesR t l N sd).length ≤ sd * 9000) (fun _ i _ => 2 - (intOf i).toNat)
 case atStart => exact ⟨0, by omega, rfl, F.out.1, F.out.2, World.ownsRow_nil _ _ _ _, Nat.zero_le _⟩
 case round =>
  clear F
  obtain ⟨sd, hsd, rfl, hb, hbk, hown, hlen⟩ := hrel
  have F1 := Lib.hid (And.intro hb (And.intro hbk hown))
  clear hb hbk hown
  by_cases hs2 : sd < 2
  ·
   have q1 : (sd : Int) < 2 := by omega
   have q0 : (0 : Int) ≤ (sd : Int) := by omega
   go_upto_region 6 with fail
   go_loopw [7, 9] (fun v i wr => ∃ j : Nat, j ≤ 9 ∧ i = .int .i64 ((j : Int) + 1) ∧ Below w.heap.size w wr ∧ Bk wr w.heap.size 46 tc.toArray ∧ wr.ownsRow (w.heap.size + 1) 124 6 v (sidesR t l N sd ++ slotsR t l N sd j).length (flatS (sidesR t l N sd ++ slotsR t l N sd j)) ∧ (sidesR t l N sd ++ slotsR t l N sd j).length ≤ sd * 9000 + j * 1000) (fun _ i _ => 10 - (intOf i).toNat)
   case atStart => exact ⟨0, by omega, rfl, F1.out.1, F1.out.2.1, by simpa [slotsR] using F1.out.2.2, by simpa [slotsR] using hlen⟩
   case round =>
    clear F1 hlen
    obtain ⟨j, hj, rfl, hb, hbk, hown, hlen⟩ := hrel
    have F1 := Lib.hid (And.intro hb (And.intro hbk hown))
    clear hb hbk hown
    by_cases hj9 : j < 9
    ·
     have p1 : (j : Int) + 1 ≤ 9 := by omega
     obtain ⟨h, hh⟩ : ∃ h, h = hA t l sd ((j : Int) + 1) := ⟨_, rfl⟩
     have hsucc := slotsR_succ t l N sd j
     rw [← hh] at hsucc
     have Hh := Lib.hid hh; have Hsucc := Lib.hid hsucc
     clear hh hsucc
     obtain ⟨R0, hR0⟩ : ∃ R0, R0 = sidesR t l N sd ++ slotsR t l N sd j := ⟨_, rfl⟩
     rw [← hR0] at F1 hlen
     have HR0 := Lib.hid hR0; clear hR0
     go_upto_region 9 with fail
     go_loopw [7, 10] (fun v i wr => ∃ k : Nat, k ≤ N ∧ i = .int .i64 k ∧ Below w.heap.size w wr ∧ Bk wr w.heap.size 46 tc.toArray ∧ wr.ownsRow (w.heap.size + 1) 124 6 v (R0 ++ refSt h sd ((j : Int) + 1) k).length (flatS (R0 ++ refSt h sd ((j : Int) + 1) k))) (fun _ i _ => N - (intOf i).toNat)
     case atStart => exact ⟨0, Nat.zero_le _, rfl, F1.out.1, F1.out.2.1, by simpa [refSt] using F1.out.2.2⟩
     case round =>
      clear F1
      obtain ⟨k, hk, rfl, hb, hbk, hown⟩ := hrel
      have hlk := refSt_len h sd ((j : Int) + 1) k
      by_cases hkN : k < N
      ·
       have r1 : (k : Int) < (N : Int) := by omega
       obtain ⟨T2, hT2⟩ : ∃ T2, T2 = atAll t l k := ⟨_, rfl⟩
       have H40k := Lib.hid (H40.out wr k hb)
       have hok3 := Hok2.out k
       rw [← hT2] at H40k hok3
       have hss : (sd : Int) = 0 ∨ (sd : Int) = 1 := by omega
       have hix := fun W => run_index46 W T2 hok3 sd hss
       have Hok := Lib.hid (Tms.get_ok T2 hok3 sd)
       have hhk : h k = ((T2.get sd).b.getD j .empty, (T2.get sd).p.getD j 0) := by
        rw [Hh.out]
        unfold hA Tms.who LU.bat LU.at_
        rw [← hT2, show ((j : Int) + 1 - 1).toNat = j by omega]
       clear hT2 hok3 hss
       generalize T2.get sd = X at hix Hok hhk
       have Hi25 : Hid ((Tryz.prog.info? 25).map (·.size) = some X.cells.toArray.size) := by show _ = _; rw [List.size_toArray]; exact size25D X Hok.out
       have Hone : Hid (X.cells.toArray.all (·.oneCell') = true) := LU.oneCell X
       have HS18 : Hid (X.cells.toArray.size = 18) := LU.size18 X Hok.out
       have HB : Hid (∀ W g, Bk W g 25 X.cells.toArray → W.cell? ⟨g, j, none⟩ = some (.string (X.b.getD j .empty)) ∧ W.cell? ⟨g, 9 + j, none⟩ = some (.int .i64 (X.p.getD j 0))) := fun W g h => ⟨LU.cell_b Hok.out h j hj9, LU.cell_p' Hok.out h j hj9⟩
       generalize X.b.getD j .empty = bn at HB hhk
       generalize X.p.getD j 0 = bp at HB hhk
       generalize T2.cells = tc2 at hix H40k
       generalize X.cells = xc at hix Hi25 Hone HS18 HB
       obtain ⟨V, hV⟩ : ∃ V, V = R0 ++ refSt h sd ((j : Int) + 1) k := ⟨_, rfl⟩
       rw [← hV] at hown
       have hVl : V.length ≤ 40000 := by rw [hV, List.length_append]; omega
       -- what the step does
       obtain ⟨b, hbt, hbf⟩ : ∃ b : Bool, (b = true → 0 < k ∧ ∃ Q s, V = Q ++ [s] ∧ s.name = bn ∧ s.pos = bp ∧ R0 ++ refSt h sd ((j : Int) + 1) (k + 1) = Q ++ [⟨s.side, s.slot, s.pos, s.name, s.fr, (k : Int) + 1⟩]) ∧
        (b = false → R0 ++ refSt h sd ((j : Int) + 1) (k + 1) = V ++ [⟨sd, (j : Int) + 1, bp, bn, k, (k : Int) + 1⟩] ∧ (k = 0 ∨ (0 < k ∧ ∃ Q s, V = Q ++ [s] ∧ ¬ (s.name = bn ∧ s.pos = bp)))) := by
        by_cases hk0 : k = 0
        ·
         refine ⟨false, (fun e => by cases e), fun _ => ⟨?_, .inl hk0⟩⟩
         rw [hV, refSt_succ, hk0]
         show R0 ++ refStep h sd ((j : Int) + 1) 0 [] = R0 ++ [] ++ _
         rw [refStep_nil, List.append_nil, ← hk0, hhk]
        ·
         have hne := refSt_ne h sd ((j : Int) + 1) k (by omega)
         rcases List.eq_nil_or_concat (refSt h sd ((j : Int) + 1) k) with e | ⟨S, s, e⟩
         ·
          exact absurd e hne
         ·
          rw [List.concat_eq_append] at e
          rw [refSt_succ, e, refStep_snoc, hhk]
          rw [e] at hV
          by_cases hq : s.name = bn ∧ s.pos = bp
          ·
           refine ⟨true, fun _ => ⟨by omega, R0 ++ S, s, by rw [hV, List.append_assoc], hq.1, hq.2, ?_⟩, (fun e => by cases e)⟩
           rw [if_pos hq, List.append_assoc]
          ·
           refine ⟨false, (fun e => by cases e), fun _ => ⟨?_, .inr ⟨by omega, R0 ++ S, s, by rw [hV, List.append_assoc], hq⟩⟩⟩
           rw [if_neg hq, hV]; simp
       have Hbt := Lib.hid hbt; have Hbf := Lib.hid hbf
       clear hbt hbf hV hhk hlk
       have F2 := Lib.hid (show Below w.heap.size w wr ∧ Bk wr w.heap.size 46 tc.toArray ∧ wr.ownsRow (w.heap.size + 1) 124 6 u7 V.length (flatS V) from ⟨hb, hbk, hown⟩)
       clear hb hbk hown
       go_upto_region 12 with (first
        | (refine wpList_load_row rfl 46 _ rfl w.heap.size rfl 46 tc.toArray (0, 0) _ F2.out.2.1 Tryz.underlying46 rfl Hi.out ?_)
        | (go_at_call 40; refine H40k.out.mono ?_; rintro e w2 ⟨rfl, hb2⟩)
        | (refine wpList_store_mid rfl 25 (.tmp 11) (.tmp 31) rfl w2.heap.size 0 xc.toArray rfl rfl ((Bk.new w2 25 #[.string { data := #[] }, .string { data := #[] }, .string { data := #[] }, .string { data := #[] }, .string { data := #[] }, .string { data := #[] }, .string { data := #[] }, .string { data := #[] }, .string { data := #[] }, .int .i64 0, .int .i64 0, .int .i64 0, .int .i64 0, .int .i64 0, .int .i64 0, .int .i64 0, .int .i64 0, .int .i64 0]).there xc.toArray.size (by rw [HS18.out]; decide)) Hi25.out Hone.out ?_))
       have hge : w.heap.size < w2.heap.size := Nat.lt_of_lt_of_le F2.out.2.1.lt hb2.size
       have hfar : ∀ r, u7.ownBlock = some r → r < w2.heap.size := fun r e => Nat.lt_of_lt_of_le (F2.out.2.2.lt r e).2 hb2.size
       have F3 : Hid (Below w.heap.size w ((w2.alloc (.cells #[.string { data := #[] }, .string { data := #[] }, .string { data := #[] }, .string { data := #[] }, .string { data := #[] }, .string { data := #[] }, .string { data := #[] }, .string { data := #[] }, .string { data := #[] }, .int .i64 0, .int .i64 0, .int .i64 0, .int .i64 0, .int .i64 0, .int .i64 0, .int .i64 0, .int .i64 0, .int .i64 0] 25)).setCells w2.heap.size 0 xc) ∧ Bk ((w2.alloc (.cells #[.string { data := #[] }, .string { data := #[] }, .string { data := #[] }, .string { data := #[] }, .string { data := #[] }, .string { data := #[] }, .string { data := #[] }, .string { data := #[] }, .string { data := #[] }, .int .i64 0, .int .i64 0, .int .i64 0, .int .i64 0, .int .i64 0, .int .i64 0, .int .i64 0, .int .i64 0, .int .i64 0] 25)).setCells w2.heap.size 0 xc) w.heap.size 46 tc.toArray ∧ ((w2.alloc (.cells #[.string { data := #[] }, .string { data := #[] }, .string { data := #[] }, .string { data := #[] }, .string { data := #[] }, .string { data := #[] }, .string { data := #[] }, .string { data := #[] }, .string { data := #[] }, .int .i64 0, .int .i64 0, .int .i64 0, .int .i64 0, .int .i64 0, .int .i64 0, .int .i64 0, .int .i64 0, .int .i64 0] 25)).setCells w2.heap.size 0 xc).ownsRow (w.heap.size + 1) 124 6 u7 V.length (flatS V) ∧ Bk ((w2.alloc (.cells #[.string { data := #[] }, .string { data := #[] }, .string { data := #[] }, .string { data := #[] }, .string { data := #[] }, .string { data := #[] }, .string { data := #[] }, .string { data := #[] }, .string { data := #[] }, .int .i64 0, .int .i64 0, .int .i64 0, .int .i64 0, .int .i64 0, .int .i64 0, .int .i64 0, .int .i64 0, .int .i64 0] 25)).setCells w2.heap.size 0 xc) w2.heap.size 25 xc.toArray ∧ ∀ r, u7.ownBlock = some r → r ≠ w2.heap.size) := by
        refine ⟨below_sets (by omega) (bt_alloc (bt_trans F2.out.1 hb2) _) _ _, Bk.setsFar (by omega) _ _ ((F2.out.2.1.below hb2 F2.out.2.1.lt).alloc _), own_setsNe ((own_below F2.out.2.2 hb2).alloc _) (fun r e => by have := hfar r e; omega) _ _, ?_, fun r e => by have := hfar r e; omega⟩
        have := (Bk.new w2 25 #[.string { data := #[] }, .string { data := #[] }, .string { data := #[] }, .string { data := #[] }, .string { data := #[] }, .string { data := #[] }, .string { data := #[] }, .string { data := #[] }, .string { data := #[] }, .int .i64 0, .int .i64 0, .int .i64 0, .int .i64 0, .int .i64 0, .int .i64 0, .int .i64 0, .int .i64 0, .int .i64 0]).fill xc.toArray (by rw [HS18.out]; rfl)
        simpa using this
       clear F2 hb2 hge H40k hix Hi25 Hone HS18 hfar
       generalize ((w2.alloc (.cells #[.string { data := #[] }, .string { data := #[] }, .string { data := #[] }, .string { data := #[] }, .string { data := #[] }, .string { data := #[] }, .string { data := #[] }, .string { data := #[] }, .string { data := #[] }, .int .i64 0, .int .i64 0, .int .i64 0, .int .i64 0, .int .i64 0, .int .i64 0, .int .i64 0, .int .i64 0, .int .i64 0] 25)).setCells w2.heap.size 0 xc) = W1 at F3 ⊢
       generalize w2.heap.size = g at F3 ⊢
       obtain ⟨hx7, A7, c7, rfl, hr7⟩ := SlK.of_own F3.out.2.2.1
       obtain ⟨m, hm⟩ : ∃ m, m = V.length := ⟨_, rfl⟩
       obtain ⟨z, hz⟩ : ∃ z : Int, z = (m : Int) - 1 := ⟨_, rfl⟩
       have u1 : IntKind.i64.wrap ((m : Int) - 1) = z := by rw [IntWalk.i64_in _ (by omega)]; exact hz.symm
       have u2 : IntKind.i64.wrap ((j : Int) + 1 - 1) = (j : Int) := by rw [IntWalk.i64_in _ (by omega)]; omega
       have u4 : IntKind.i64.wrap (j : Int) = (j : Int) := IntWalk.i64_in _ (by omega)
       have u3 : IntKind.i64.wrap ((k : Int) + 1) = (k : Int) + 1 := IntWalk.i64_in _ (by omega)
       have j0 : (0 : Int) ≤ (j : Int) := by omega
       have j9 : (j : Int) < 9 := by omega
       rw [← hm] at F3 hx7 hVl ⊢
       have Hm := Lib.hid hm; have Hz := Lib.hid hz; have Hr7 := Lib.hid (show SlK 6 W1 (.slice A7 m c7) m (flatS V) from ⟨hx7, A7, c7, rfl, hr7⟩)
       clear hm hz hr7 hx7
       go_upto_region 13 with fail
       go_cut [12, 62] from 21 to 87 (fun s12 s62 w2 => s12 = .int .i64 z ∧ s62 = .bool b ∧ w2 = W1.drew)
       case first =>
        obtain ⟨y1, y2⟩ := HB.out W1.drew g F3.out.2.2.2.1.drew
        have F3' := F3.out.2.2.1
        have read : ∀ (Q : List Sti) (s : Sti), V = Q ++ [s] → ∃ b7 off7, A7 = some ⟨b7, off7, none⟩ ∧ z = (Q.length : Int) ∧ m = Q.length + 1 ∧ W1.drew.cell? ⟨b7, off7 + Q.length * 6 + 3, none⟩ = some (.string s.name) ∧ W1.drew.cell? ⟨b7, off7 + Q.length * 6 + 2, none⟩ = some (.int .i64 s.pos) := fun Q s e => by
         have hml : m = Q.length + 1 := by rw [Hm.out, e]; simp
         have hrs : RdS W1 A7 V := RdS.of_slk Hr7.out
         obtain ⟨b7, off7, e7, hc7⟩ := hrs Q.length (by rw [e]; simp)
         have eg : V.getD Q.length noSti = s := by rw [e]; simp [List.getD]
         rw [eg] at hc7
         exact ⟨b7, off7, e7, by rw [Hz.out, hml]; omega, hml, hc7 3 (by omega), hc7 2 (by omega)⟩
        cases b
        ·
         rcases (Hbf.out rfl).2 with h0 | ⟨h0, Q, s, e, hne⟩
         ·
          have d0 : decide ((0 : Int) < (k : Int)) = false := decide_eq_false (by omega)
          have d1 : ¬ 0 < k := by omega
          clear h0 read F3'
          refine wp_region_held_drew (S := fun W => True) (by kernel_rfl) (True.intro) (fun hHeld => ?_)
          refine tkD (i := 0) rfl ?_
          try simp only [Act.put, s1D, s2D, s3D]
          refine tkD (i := 1) rfl ?_
          try simp only [Act.put, s1D, s2D, s3D]
          refine tkD (i := 2) rfl ?_
          try simp only [Act.put, s1D, s2D, s3D]
          refine wpAnyH_take (i := 3) (v := undef) rfl (by kernel_rfl) (by kernel_rfl) (by kernel_rfl) (fun _ _ _ h => h) (Or.inr ⟨by kernel_rfl, rfl⟩) (by assumption) ?_
          try simp only [Act.put, s1D, s2D, s3D]
          refine wpAnyH_take (i := 4) (v := undef) rfl (by kernel_rfl) (by kernel_rfl) (by kernel_rfl) (fun _ _ _ h => h) (Or.inr ⟨by kernel_rfl, rfl⟩) (by assumption) ?_
          try simp only [Act.put, s1D, s2D, s3D]
          refine wpAnyH_take (i := 5) (v := undef) rfl (by kernel_rfl) (by kernel_rfl) (by kernel_rfl) (fun _ _ _ h => h) (Or.inr ⟨by kernel_rfl, rfl⟩) (by assumption) ?_
          try simp only [Act.put, s1D, s2D, s3D]
          refine wpAnyH_take (i := 6) (v := undef) rfl (by kernel_rfl) (by kernel_rfl) (by kernel_rfl) (fun _ _ _ h => h) (Or.inr ⟨by kernel_rfl, rfl⟩) (by assumption) ?_
          try simp only [Act.put, s1D, s2D, s3D]
          refine wpAnyH_take (i := 7) (v := undef) rfl (by kernel_rfl) (by kernel_rfl) (by kernel_rfl) (fun _ _ _ h => h) (Or.inr ⟨by kernel_rfl, rfl⟩) (by assumption) ?_
          try simp only [Act.put, s1D, s2D, s3D]
          refine wpAnyH_take (i := 8) (v := undef) rfl (by kernel_rfl) (by kernel_rfl) (by kernel_rfl) (fun _ _ _ h => h) (Or.inr ⟨by kernel_rfl, rfl⟩) (by assumption) ?_
          try simp only [Act.put, s1D, s2D, s3D]
          refine wpAnyH_take (i := 9) (v := undef) rfl (by kernel_rfl) (by kernel_rfl) (by kernel_rfl) (fun _ _ _ h => h) (Or.inr ⟨by kernel_rfl, rfl⟩) (by assumption) ?_
          try simp only [Act.put, s1D, s2D, s3D]
          refine wpAnyH_take (i := 10) (v := undef) rfl (by kernel_rfl) (by kernel_rfl) (by kernel_rfl) (fun _ _ _ h => h) (Or.inr ⟨by kernel_rfl, rfl⟩) (by assumption) ?_
          try simp only [Act.put, s1D, s2D, s3D]
          refine wpAnyH_take (i := 11) (v := undef) rfl (by kernel_rfl) (by kernel_rfl) (by kernel_rfl) (fun _ _ _ h => h) (Or.inr ⟨by kernel_rfl, rfl⟩) (by assumption) ?_
          try simp only [Act.put, s1D, s2D, s3D]
          refine wpAnyH_take (i := 12) (v := undef) rfl (by kernel_rfl) (by kernel_rfl) (by kernel_rfl) (fun _ _ _ h => h) (Or.inr ⟨by kernel_rfl, rfl⟩) (by assumption) ?_
          try simp only [Act.put, s1D, s2D, s3D]
          refine wpAnyH_take (i := 13) (v := undef) rfl (by kernel_rfl) (by kernel_rfl) (by kernel_rfl) (fun _ _ _ h => h) (Or.inr ⟨by kernel_rfl, rfl⟩) (by assumption) ?_
          try simp only [Act.put, s1D, s2D, s3D]
          refine tkD (i := 14) rfl ?_
          try simp only [Act.put, s1D, s2D, s3D]
          refine tkD (i := 15) rfl ?_
          try simp only [Act.put, s1D, s2D, s3D]
          refine wpAnyH_take (i := 16) (v := undef) rfl (by kernel_rfl) (by kernel_rfl) (by kernel_rfl) (fun _ _ _ h => h) (Or.inr ⟨by kernel_rfl, rfl⟩) (by assumption) ?_
          try simp only [Act.put, s1D, s2D, s3D]
          refine wpAnyH_take (i := 17) (v := undef) rfl (by kernel_rfl) (by kernel_rfl) (by kernel_rfl) (fun _ _ _ h => h) (Or.inr ⟨by kernel_rfl, rfl⟩) (by assumption) ?_
          try simp only [Act.put, s1D, s2D, s3D]
          refine wpAnyH_take (i := 18) (v := undef) rfl (by kernel_rfl) (by kernel_rfl) (by kernel_rfl) (fun _ _ _ h => h) (Or.inr ⟨by kernel_rfl, rfl⟩) (by assumption) ?_
          try simp only [Act.put, s1D, s2D, s3D]
          refine wpAnyH_take (i := 19) (v := undef) rfl (by kernel_rfl) (by kernel_rfl) (by kernel_rfl) (fun _ _ _ h => h) (Or.inr ⟨by kernel_rfl, rfl⟩) (by assumption) ?_
          try simp only [Act.put, s1D, s2D, s3D]
          refine wpAnyH_take (i := 20) (v := undef) rfl (by kernel_rfl) (by kernel_rfl) (by kernel_rfl) (fun _ _ _ h => h) (Or.inr ⟨by kernel_rfl, rfl⟩) (by assumption) ?_
          try simp only [Act.put, s1D, s2D, s3D]
          refine wpAnyH_take (i := 21) (v := undef) rfl (by kernel_rfl) (by kernel_rfl) (by kernel_rfl) (fun _ _ _ h => h) (Or.inr ⟨by kernel_rfl, rfl⟩) (by assumption) ?_
          try simp only [Act.put, s1D, s2D, s3D]
          refine wpAnyH_take (i := 22) (v := undef) rfl (by kernel_rfl) (by kernel_rfl) (by kernel_rfl) (fun _ _ _ h => h) (Or.inr ⟨by kernel_rfl, rfl⟩) (by assumption) ?_
          try simp only [Act.put, s1D, s2D, s3D]
          refine wpAnyH_take (i := 23) (v := undef) rfl (by kernel_rfl) (by kernel_rfl) (by kernel_rfl) (fun _ _ _ h => h) (Or.inr ⟨by kernel_rfl, rfl⟩) (by assumption) ?_
          try simp only [Act.put, s1D, s2D, s3D]
          refine wpAnyH_take (i := 24) (v := undef) rfl (by kernel_rfl) (by kernel_rfl) (by kernel_rfl) (fun _ _ _ h => h) (Or.inr ⟨by kernel_rfl, rfl⟩) (by assumption) ?_
          try simp only [Act.put, s1D, s2D, s3D]
          refine wpAnyH_take (i := 25) (v := undef) rfl (by kernel_rfl) (by kernel_rfl) (by kernel_rfl) (fun _ _ _ h => h) (Or.inr ⟨by kernel_rfl, rfl⟩) (by assumption) ?_
          try simp only [Act.put, s1D, s2D, s3D]
          refine wpAnyH_take (i := 26) (v := undef) rfl (by kernel_rfl) (by kernel_rfl) (by kernel_rfl) (fun _ _ _ h => h) (Or.inr ⟨by kernel_rfl, rfl⟩) (by assumption) ?_
          try simp only [Act.put, s1D, s2D, s3D]
          refine tkD (i := 27) rfl ?_
          try simp only [Act.put, s1D, s2D, s3D]
          refine wpAnyH_done (by kernel_rfl) ?_ _
          go_wp2_with fail
          go_meet
          exact ⟨rfl, rfl, rfl⟩
         ·
          obtain ⟨b7, off7, rfl, rfl, hm1, x3, x2⟩ := read Q s e
          have d0 : decide ((0 : Int) < (k : Int)) = true := decide_eq_true (by omega)
          have d1 : 0 < k := by omega
          have z0 : (0 : Int) ≤ (Q.length : Int) := by omega
          have z1 : (Q.length : Int) < (m : Int) := by omega
          by_cases hn1 : s.name = bn
          ·
           have t1 := tl_eq hn1
           have t2 : (s.pos == bp) = false := by simpa using fun e => hne ⟨hn1, e⟩
           clear h0 read F3' e hne hn1
           clear hm1
           generalize hq : Q.length = m1 at z0 z1 x2 x3 u1 ⊢
           have Hq := Lib.hid hq; clear hq
           refine wp_region_held_drew (S := fun W => (W.cell? ⟨b7, off7 + m1 * 6 + 3, none⟩ = some (.string s.name) ∧ W.cell? ⟨b7, off7 + m1 * 6 + 2, none⟩ = some (.int .i64 s.pos)) ∧ W.cell? ⟨g, j, none⟩ = some (.string bn) ∧ W.cell? ⟨g, 9 + j, none⟩ = some (.int .i64 bp)) (by kernel_rfl) (⟨⟨x3, x2⟩, y1, y2⟩) (fun hHeld => ?_)
           refine tkD (i := 0) rfl ?_
           try simp only [Act.put, s1D, s2D, s3D]
           refine tkD (i := 1) rfl ?_
           try simp only [Act.put, s1D, s2D, s3D]
           refine tkD (i := 2) rfl ?_
           try simp only [Act.put, s1D, s2D, s3D]
           refine tkD (i := 3) rfl ?_
           try simp only [Act.put, s1D, s2D, s3D]
           refine tkD (i := 4) rfl ?_
           try simp only [Act.put, s1D, s2D, s3D]
           refine tkD (i := 5) rfl ?_
           try simp only [Act.put, s1D, s2D, s3D]
           refine tkD (i := 6) rfl ?_
           try simp only [Act.put, s1D, s2D, s3D]
           refine tkD (i := 7) rfl ?_
           try simp only [Act.put, s1D, s2D, s3D]
           refine tkD (i := 8) rfl ?_
           try simp only [Act.put, s1D, s2D, s3D]
           refine tkD (i := 9) rfl ?_
           try simp only [Act.put, s1D, s2D, s3D]
           refine tkD (i := 10) rfl ?_
           try simp only [Act.put, s1D, s2D, s3D]
           refine tkD (i := 11) rfl ?_
           try simp only [Act.put, s1D, s2D, s3D]
           refine tkD (i := 12) rfl ?_
           try simp only [Act.put, s1D, s2D, s3D]
           refine tkD (i := 13) rfl ?_
           try simp only [Act.put, s1D, s2D, s3D]
           refine tkD (i := 14) rfl ?_
           try simp only [Act.put, s1D, s2D, s3D]
           refine tkD (i := 15) rfl ?_
           try simp only [Act.put, s1D, s2D, s3D]
           refine tkD (i := 16) rfl ?_
           try simp only [Act.put, s1D, s2D, s3D]
           refine tkD (i := 17) rfl ?_
           try simp only [Act.put, s1D, s2D, s3D]
           refine tkD (i := 18) rfl ?_
           try simp only [Act.put, s1D, s2D, s3D]
           refine tkD (i := 19) rfl ?_
           try simp only [Act.put, s1D, s2D, s3D]
           refine tkD (i := 20) rfl ?_
           try simp only [Act.put, s1D, s2D, s3D]
           refine tkD (i := 21) rfl ?_
           try simp only [Act.put, s1D, s2D, s3D]
           refine tkD (i := 22) rfl ?_
           try simp only [Act.put, s1D, s2D, s3D]
           refine tkD (i := 23) rfl ?_
           try simp only [Act.put, s1D, s2D, s3D]
           refine tkD (i := 24) rfl ?_
           try simp only [Act.put, s1D, s2D, s3D]
           refine tkD (i := 25) rfl ?_
           try simp only [Act.put, s1D, s2D, s3D]
           refine tkD (i := 26) rfl ?_
           try simp only [Act.put, s1D, s2D, s3D]
           refine tkD (i := 27) rfl ?_
           try simp only [Act.put, s1D, s2D, s3D]
           refine wpAnyH_done (by kernel_rfl) ?_ _
           go_wp2_with fail
           go_meet
           exact ⟨by rw [Hq.out], rfl, rfl⟩
          ·
           have t1 := tl_ne hn1
           clear h0 read F3' e hne hn1
           clear hm1
           generalize hq : Q.length = m1 at z0 z1 x2 x3 u1 ⊢
           have Hq := Lib.hid hq; clear hq
           refine wp_region_held_drew (S := fun W => (W.cell? ⟨b7, off7 + m1 * 6 + 3, none⟩ = some (.string s.name) ∧ W.cell? ⟨b7, off7 + m1 * 6 + 2, none⟩ = some (.int .i64 s.pos)) ∧ W.cell? ⟨g, j, none⟩ = some (.string bn) ∧ W.cell? ⟨g, 9 + j, none⟩ = some (.int .i64 bp)) (by kernel_rfl) (⟨⟨x3, x2⟩, y1, y2⟩) (fun hHeld => ?_)
           refine tkD (i := 0) rfl ?_
           try simp only [Act.put, s1D, s2D, s3D]
           refine tkD (i := 1) rfl ?_
           try simp only [Act.put, s1D, s2D, s3D]
           refine tkD (i := 2) rfl ?_
           try simp only [Act.put, s1D, s2D, s3D]
           refine tkD (i := 3) rfl ?_
           try simp only [Act.put, s1D, s2D, s3D]
           refine tkD (i := 4) rfl ?_
           try simp only [Act.put, s1D, s2D, s3D]
           refine tkD (i := 5) rfl ?_
           try simp only [Act.put, s1D, s2D, s3D]
           refine tkD (i := 6) rfl ?_
           try simp only [Act.put, s1D, s2D, s3D]
           refine tkD (i := 7) rfl ?_
           try simp only [Act.put, s1D, s2D, s3D]
           refine tkD (i := 8) rfl ?_
           try simp only [Act.put, s1D, s2D, s3D]
           refine tkD (i := 9) rfl ?_
           try simp only [Act.put, s1D, s2D, s3D]
           refine tkD (i := 10) rfl ?_
           try simp only [Act.put, s1D, s2D, s3D]
           refine tkD (i := 11) rfl ?_
           try simp only [Act.put, s1D, s2D, s3D]
           refine tkD (i := 12) rfl ?_
           try simp only [Act.put, s1D, s2D, s3D]
           refine tkD (i := 13) rfl ?_
           try simp only [Act.put, s1D, s2D, s3D]
           refine tkD (i := 14) rfl ?_
           try simp only [Act.put, s1D, s2D, s3D]
           refine tkD (i := 15) rfl ?_
           try simp only [Act.put, s1D, s2D, s3D]
           refine wpAnyH_take (i := 16) (v := undef) rfl (by kernel_rfl) (by kernel_rfl) (by kernel_rfl) (fun _ _ _ h => h) (Or.inr ⟨by kernel_rfl, rfl⟩) (by assumption) ?_
           try simp only [Act.put, s1D, s2D, s3D]
           refine wpAnyH_take (i := 17) (v := undef) rfl (by kernel_rfl) (by kernel_rfl) (by kernel_rfl) (fun _ _ _ h => h) (Or.inr ⟨by kernel_rfl, rfl⟩) (by assumption) ?_
           try simp only [Act.put, s1D, s2D, s3D]
           refine wpAnyH_take (i := 18) (v := undef) rfl (by kernel_rfl) (by kernel_rfl) (by kernel_rfl) (fun _ _ _ h => h) (Or.inr ⟨by kernel_rfl, rfl⟩) (by assumption) ?_
           try simp only [Act.put, s1D, s2D, s3D]
           refine wpAnyH_take (i := 19) (v := undef) rfl (by kernel_rfl) (by kernel_rfl) (by kernel_rfl) (fun _ _ _ h => h) (Or.inr ⟨by kernel_rfl, rfl⟩) (by assumption) ?_
           try simp only [Act.put, s1D, s2D, s3D]
           refine wpAnyH_take (i := 20) (v := undef) rfl (by kernel_rfl) (by kernel_rfl) (by kernel_rfl) (fun _ _ _ h => h) (Or.inr ⟨by kernel_rfl, rfl⟩) (by assumption) ?_
           try simp only [Act.put, s1D, s2D, s3D]
           refine wpAnyH_take (i := 21) (v := undef) rfl (by kernel_rfl) (by kernel_rfl) (by kernel_rfl) (fun _ _ _ h => h) (Or.inr ⟨by kernel_rfl, rfl⟩) (by assumption) ?_
           try simp only [Act.put, s1D, s2D, s3D]
           refine wpAnyH_take (i := 22) (v := undef) rfl (by kernel_rfl) (by kernel_rfl) (by kernel_rfl) (fun _ _ _ h => h) (Or.inr ⟨by kernel_rfl, rfl⟩) (by assumption) ?_
           try simp only [Act.put, s1D, s2D, s3D]
           refine wpAnyH_take (i := 23) (v := undef) rfl (by kernel_rfl) (by kernel_rfl) (by kernel_rfl) (fun _ _ _ h => h) (Or.inr ⟨by kernel_rfl, rfl⟩) (by assumption) ?_
           try simp only [Act.put, s1D, s2D, s3D]
           refine wpAnyH_take (i := 24) (v := undef) rfl (by kernel_rfl) (by kernel_rfl) (by kernel_rfl) (fun _ _ _ h => h) (Or.inr ⟨by kernel_rfl, rfl⟩) (by assumption) ?_
           try simp only [Act.put, s1D, s2D, s3D]
           refine wpAnyH_take (i := 25) (v := undef) rfl (by kernel_rfl) (by kernel_rfl) (by kernel_rfl) (fun _ _ _ h => h) (Or.inr ⟨by kernel_rfl, rfl⟩) (by assumption) ?_
           try simp only [Act.put, s1D, s2D, s3D]
           refine wpAnyH_take (i := 26) (v := undef) rfl (by kernel_rfl) (by kernel_rfl) (by kernel_rfl) (fun _ _ _ h => h) (Or.inr ⟨by kernel_rfl, rfl⟩) (by assumption) ?_
           try simp only [Act.put, s1D, s2D, s3D]
           refine tkD (i := 27) rfl ?_
           try simp only [Act.put, s1D, s2D, s3D]
           refine wpAnyH_done (by kernel_rfl) ?_ _
           go_wp2_with fail
           go_meet
           exact ⟨by rw [Hq.out], rfl, rfl⟩
        ·
         obtain ⟨h0, Q, s, e, hn1, hp1, _⟩ := Hbt.out rfl
         obtain ⟨b7, off7, rfl, rfl, hm1, x3, x2⟩ := read Q s e
         have d0 : decide ((0 : Int) < (k : Int)) = true := decide_eq_true (by omega)
         have d1 : 0 < k := by omega
         have z0 : (0 : Int) ≤ (Q.length : Int) := by omega
         have z1 : (Q.length : Int) < (m : Int) := by omega
         have t1 := tl_eq hn1
         have t2 : (s.pos == bp) = true := by simpa using hp1
         clear h0 read F3' e hn1 hp1
         clear hm1
         generalize hq : Q.length = m1 at z0 z1 x2 x3 u1 ⊢
         have Hq := Lib.hid hq; clear hq
         refine wp_region_held_drew (S := fun W => (W.cell? ⟨b7, off7 + m1 * 6 + 3, none⟩ = some (.string s.name) ∧ W.cell? ⟨b7, off7 + m1 * 6 + 2, none⟩ = some (.int .i64 s.pos)) ∧ W.cell? ⟨g, j, none⟩ = some (.string bn) ∧ W.cell? ⟨g, 9 + j, none⟩ = some (.int .i64 bp)) (by kernel_rfl) (⟨⟨x3, x2⟩, y1, y2⟩) (fun hHeld => ?_)
         refine tkD (i := 0) rfl ?_
         try simp only [Act.put, s1D, s2D, s3D]
         refine tkD (i := 1) rfl ?_
         try simp only [Act.put, s1D, s2D, s3D]
         refine tkD (i := 2) rfl ?_
         try simp only [Act.put, s1D, s2D, s3D]
         refine tkD (i := 3) rfl ?_
         try simp only [Act.put, s1D, s2D, s3D]
         refine tkD (i := 4) rfl ?_
         try simp only [Act.put, s1D, s2D, s3D]
         refine tkD (i := 5) rfl ?_
         try simp only [Act.put, s1D, s2D, s3D]
         refine tkD (i := 6) rfl ?_
         try simp only [Act.put, s1D, s2D, s3D]
         refine tkD (i := 7) rfl ?_
         try simp only [Act.put, s1D, s2D, s3D]
         refine tkD (i := 8) rfl ?_
         try simp only [Act.put, s1D, s2D, s3D]
         refine tkD (i := 9) rfl ?_
         try simp only [Act.put, s1D, s2D, s3D]
         refine tkD (i := 10) rfl ?_
         try simp only [Act.put, s1D, s2D, s3D]
         refine tkD (i := 11) rfl ?_
         try simp only [Act.put, s1D, s2D, s3D]
         refine tkD (i := 12) rfl ?_
         try simp only [Act.put, s1D, s2D, s3D]
         refine tkD (i := 13) rfl ?_
         try simp only [Act.put, s1D, s2D, s3D]
         refine tkD (i := 14) rfl ?_
         try simp only [Act.put, s1D, s2D, s3D]
         refine tkD (i := 15) rfl ?_
         try simp only [Act.put, s1D, s2D, s3D]
         refine tkD (i := 16) rfl ?_
         try simp only [Act.put, s1D, s2D, s3D]
         refine tkD (i := 17) rfl ?_
         try simp only [Act.put, s1D, s2D, s3D]
         refine tkD (i := 18) rfl ?_
         try simp only [Act.put, s1D, s2D, s3D]
         refine tkD (i := 19) rfl ?_
         try simp only [Act.put, s1D, s2D, s3D]
         refine tkD (i := 20) rfl ?_
         try simp only [Act.put, s1D, s2D, s3D]
         refine tkD (i := 21) rfl ?_
         try simp only [Act.put, s1D, s2D, s3D]
         refine tkD (i := 22) rfl ?_
         try simp only [Act.put, s1D, s2D, s3D]
         refine tkD (i := 23) rfl ?_
         try simp only [Act.put, s1D, s2D, s3D]
         refine tkD (i := 24) rfl ?_
         try simp only [Act.put, s1D, s2D, s3D]
         refine tkD (i := 25) rfl ?_
         try simp only [Act.put, s1D, s2D, s3D]
         refine tkD (i := 26) rfl ?_
         try simp only [Act.put, s1D, s2D, s3D]
         refine tkD (i := 27) rfl ?_
         try simp only [Act.put, s1D, s2D, s3D]
         refine wpAnyH_done (by kernel_rfl) ?_ _
         go_wp2_with fail
         go_meet
         exact ⟨by rw [Hq.out], rfl, rfl⟩
       case rest =>
        obtain ⟨rfl, rfl, hwc⟩ := hcut
        have F4 : Hid (Below w.heap.size w wc ∧ Bk wc w.heap.size 46 tc.toArray ∧ wc.ownsRow (w.heap.size + 1) 124 6 (.slice A7 m c7) m (flatS V) ∧ Bk wc g 25 xc.toArray ∧ ∀ r, (Value.slice A7 m c7).ownBlock = some r → r ≠ g) := by
         rw [hwc]; exact ⟨bt_drew F3.out.1, F3.out.2.1.drew, F3.out.2.2.1, F3.out.2.2.2.1.drew, F3.out.2.2.2.2⟩
        have hrs : RdS wc A7 V := by rw [hwc]; exact (RdS.of_slk Hr7.out : RdS W1 A7 V)
        clear F3 hwc Hr7
        generalize wc = W2 at F4 hrs ⊢
        cases b
        ·
         have He := Lib.hid (Hbf.out rfl).1
         have Hr := Lib.hid hrs
         clear Hbt Hbf hrs u1
         go_upto_region 15 with fail
         obtain ⟨y1, y2⟩ := HB.out W2.drew g F4.out.2.2.2.1.drew
         refine wp_region_held_drew (S := fun W => W.cell? ⟨g, j, none⟩ = some (.string bn) ∧ W.cell? ⟨g, 9 + j, none⟩ = some (.int .i64 bp)) (by kernel_rfl) (⟨y1, y2⟩) (fun hHeld => ?_)
         refine tkD (i := 0) rfl ?_
         try simp only [Act.put, s1D, s2D, s3D]
         refine tkD (i := 1) rfl ?_
         try simp only [Act.put, s1D, s2D, s3D]
         refine tkD (i := 2) rfl ?_
         try simp only [Act.put, s1D, s2D, s3D]
         refine tkD (i := 3) rfl ?_
         try simp only [Act.put, s1D, s2D, s3D]
         refine tkD (i := 4) rfl ?_
         try simp only [Act.put, s1D, s2D, s3D]
         refine tkD (i := 5) rfl ?_
         try simp only [Act.put, s1D, s2D, s3D]
         refine tkD (i := 6) rfl ?_
         try simp only [Act.put, s1D, s2D, s3D]
         refine tkD (i := 7) rfl ?_
         try simp only [Act.put, s1D, s2D, s3D]
         refine tkD (i := 8) rfl ?_
         try simp only [Act.put, s1D, s2D, s3D]
         refine tkD (i := 9) rfl ?_
         try simp only [Act.put, s1D, s2D, s3D]
         refine tkD (i := 10) rfl ?_
         try simp only [Act.put, s1D, s2D, s3D]
         refine tkD (i := 11) rfl ?_
         try simp only [Act.put, s1D, s2D, s3D]
         refine tkD (i := 12) rfl ?_
         try simp only [Act.put, s1D, s2D, s3D]
         refine tkD (i := 13) rfl ?_
         try simp only [Act.put, s1D, s2D, s3D]
         refine tkD (i := 14) rfl ?_
         try simp only [Act.put, s1D, s2D, s3D]
         refine tkD (i := 15) rfl ?_
         try simp only [Act.put, s1D, s2D, s3D]
         refine tkD (i := 16) rfl ?_
         try simp only [Act.put, s1D, s2D, s3D]
         have y' := HB.out (W2.alloc (.cells #[.int .i64 sd, .int .i64 ((j : Int) + 1), .int .i64 bp, .string bn, .int .i64 k, .int .i64 ((k : Int) + 1)] 124)).drew g (F4.out.2.2.2.1.alloc _).drew
         refine wpAnyH_ready (rs := [17]) (by kernel_rfl) (by simp) ?_
         refine AllReadyH.cons rfl (fun K hK => ?_) AllReadyH.nil
         go_simp
         refine hK.out _ _ (y') (fun hHeld => ?_)
         clear hK K
         try simp only [Act.put, s1D, s2D, s3D]
         clear hHeld
         have hcs := new_cells W2 #[.int .i64 sd, .int .i64 ((j : Int) + 1), .int .i64 bp, .string bn, .int .i64 k, .int .i64 ((k : Int) + 1)] 124
         have hown4 := F4.out.2.2.1.alloc (.cells #[.int .i64 sd, .int .i64 ((j : Int) + 1), .int .i64 bp, .string bn, .int .i64 k, .int .i64 ((k : Int) + 1)] 124)
         have hlt4 := F4.out.2.2.2.1.lt
         have hlw4 := F4.out.2.1.lt
         refine wpAnyH_ready (rs := [18]) (by kernel_rfl) (by simp) ?_
         refine AllReadyH.cons rfl (fun K hK => ?_) AllReadyH.nil
         refine step_append_lies _ rfl _ _ 90 rfl (w.heap.size + 1) 124 i0 (.agg #[.int .i64 0, .int .i64 0, .int .i64 0, .string { data := #[] }, .int .i64 0, .int .i64 0]) 6 56 Tryz.underlying90 hi hz0 hz1 hz2 rfl (by decide) _ _ _ rfl hown4 ⟨W2.heap.size, 0, none⟩ 1 1 (#[.int .i64 sd, .int .i64 ((j : Int) + 1), .int .i64 bp, .string bn, .int .i64 k, .int .i64 ((k : Int) + 1)] : Array Value).toList rfl rfl hcs (by simp [Value.oneCell']) (by decide) (by unfold maxLen; omega) (by omega) (by simp; omega) _ rfl ?_
         intro g9 cap w5 hown' hgrow hat hlt5
         have F5 : Hid (Below w.heap.size w w5 ∧ Bk w5 w.heap.size 46 tc.toArray ∧ Bk w5 g 25 xc.toArray) := by
          refine ⟨(bt_alloc (bt_drew F4.out.1) _).grown hgrow (by simp; omega) (fun q e => by have := (F4.out.2.2.1.lt q e).1; omega), (hgrow.block _ (by simp; omega) (fun e => by have := (F4.out.2.2.1.lt _ e.symm).1; omega)).trans (F4.out.2.1.alloc _), (hgrow.block _ (by simp; omega) (fun e => F4.out.2.2.2.2 _ e.symm rfl)).trans (F4.out.2.2.2.1.alloc _)⟩
         refine hK.out _ _ (HB.out _ _ F5.out.2.2) (fun hHeld => ?_)
         clear hK K
         try simp only [Act.put, s1D, s2D, s3D]
         refine wpAnyH_ready (rs := [19]) (by kernel_rfl) (by simp) ?_
         refine AllReadyH.cons rfl (fun K hK => ?_) AllReadyH.nil
         go_simp
         refine hK.out _ _ (hHeld) (fun hHeld => ?_)
         clear hK K
         try simp only [Act.put, s1D, s2D, s3D]
         refine wpAnyH_done (by kernel_rfl) ?_ _
         clear hHeld hcs hown4 hgrow hat y' y1 y2
         go_wp2
         go_roundw
         case rel =>
          refine ⟨k + 1, by omega, by go_num, F5.out.1, F5.out.2.1, ?_⟩
          rw [He.out, flatS_append, flatS_one, List.length_append, ← Hm.out]
          exact hown'
         case measure => simp [intOf]; omega
        ·
         obtain ⟨h0, Q, s, e, _, _, he2⟩ := Hbt.out rfl
         obtain ⟨b7, off7, rfl, hc7⟩ := hrs Q.length (by rw [e]; simp)
         have eg : V.getD Q.length noSti = s := by rw [e]; simp [List.getD]
         rw [eg] at hc7
         have hml : m = Q.length + 1 := by rw [Hm.out, e]; simp
         obtain ⟨ho, hbb, _⟩ := own_off F4.out.2.2.1
         have f5 := F4.out.2.2.1
         subst ho
         have z5 : W2.cell? ⟨b7, Q.length * 6 + 5, none⟩ = some (.int .i64 s.to) := by
          have := hc7 5 (by omega)
          rw [Nat.zero_add] at this; exact this
         have fr5 : W2.frozen? ⟨b7, Q.length * 6 + 5, none⟩ = false := World.ownsRow.frozenAt f5 _
         have F5 : Hid (Below w.heap.size w (W2.setCell ⟨b7, Q.length * 6 + 5, none⟩ (.int .i64 ((k : Int) + 1))) ∧ Bk (W2.setCell ⟨b7, Q.length * 6 + 5, none⟩ (.int .i64 ((k : Int) + 1))) w.heap.size 46 tc.toArray ∧ (W2.setCell ⟨b7, Q.length * 6 + 5, none⟩ (.int .i64 ((k : Int) + 1))).ownsRow (w.heap.size + 1) 124 6 (.slice (some ⟨b7, 0, none⟩) m c7) m (flatS (Q ++ [(⟨s.side, s.slot, s.pos, s.name, s.fr, (k : Int) + 1⟩ : Sti)]))) := by
          have hst := f5.stored (Q.length * 6 + 5) (.int .i64 ((k : Int) + 1))
          rw [e, flatS_last] at hst
          exact ⟨F4.out.1.grown hst.2 (by have := F4.out.2.1.lt; omega) (fun q e => by have := Option.some.inj e; omega), (hst.2.block _ (by have := F4.out.2.1.lt; omega) (fun e => by have := Option.some.inj e; omega)).trans F4.out.2.1, hst.1⟩
         have z0 : (0 : Int) ≤ z := by rw [Hz.out]; omega
         have z1 : z < (m : Int) := by rw [Hz.out]; omega
         have z2 : z.toNat = Q.length := by rw [Hz.out]; omega
         have He2 := Lib.hid he2
         have He3 : Hid ((Q ++ [(⟨s.side, s.slot, s.pos, s.name, s.fr, (k : Int) + 1⟩ : Sti)]).length = m) := by show _ = _; rw [hml]; simp
         clear Hbt Hbf hrs u1 hc7 eg f5 he2 e hml h0
         generalize Q.length = m1 at z5 fr5 F5 z2
         go_wp2
         go_roundw
         case rel =>
          refine ⟨k + 1, by omega, by go_num, F5.out.1, F5.out.2.1, ?_⟩
          rw [He2.out, He3.out]
          exact F5.out.2.2
         case measure => simp [intOf]; omega
      ·
       obtain rfl : k = N := by omega
       have F6 := Lib.hid (And.intro hb (And.intro hbk hown))
       clear hb hbk hown
       go_wp2
       go_roundw
       case rel =>
        refine ⟨j + 1, by omega, by go_num, F6.out.1, F6.out.2.1, ?_, ?_⟩
        ·
         rw [Hsucc.out, ← List.append_assoc, ← HR0.out]; exact F6.out.2.2
        ·
         rw [Hsucc.out, ← List.append_assoc, ← HR0.out, List.length_append]; omega
       case measure => simp [intOf]; omega
    ·
     obtain rfl : j = 9 := by omega
     go_wp2
     go_roundw
     case rel =>
      refine ⟨sd + 1, by omega, by go_num, F1.out.1, F1.out.2.1, ?_, ?_⟩
      ·
       rw [sidesR_succ]; exact F1.out.2.2
      ·
       rw [sidesR_succ]; omega
     case measure => simp [intOf]; omega
  ·
   obtain rfl : sd = 2 := by omega
   go_wp2
   go_ret
   exact ⟨⟨_, rfl, SlK.of_own F1.out.2.2⟩, F1.out.1⟩
end Go.Proofs.YtmagppkclnebjaaGreatDoor
