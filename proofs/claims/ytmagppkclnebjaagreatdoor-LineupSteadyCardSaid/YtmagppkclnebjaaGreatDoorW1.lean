/- The facts of LineupSteady. -/
import Derived.Test.YtmagppkclnebjaaGreatDoorZ4
import Derived.Test.YtmagppkclnebjaaGreatDoorP14
import Derived.Test.YtmagppkclnebjaaGreatDoorH8
import Derived.Test.YtmagppkclnebjaaGreatDoorA20
import Derived.Test.YtmagppkclnebjaaGreatDoorA18
import Derived.Test.YtmagppkclnebjaaGreatDoorB3
set_option linter.unusedVariables false
set_option linter.unusedSimpArgs false
set_option linter.unusedSimpArgs false
set_option linter.unusedVariables false
namespace Go.Proofs.YtmagppkclnebjaaGreatDoor
open Go.RowKit
open L

/-- who has a position of a side at a play, and his slot's index; who is gone; the names of a side -/
def L.whS (t : Tms) (l : List Chg) (k side pos : Nat) : Str := holder ((atL t l k).get side) pos
def L.ixS (t : Tms) (l : List Chg) (k side pos : Nat) : Nat := (idxF (fun y => decide (y = whS t l k side pos)) ((atL t l k).get side).b).toNat
def L.gnS (t : Tms) (l : List Chg) (k side : Nat) : List Str := goneL t l k side
def L.nmS (t : Tms) (l : List Chg) (side : Nat) : List Str := namesL t l side
/-- the plays of the names up to the i-th of a side -/
def L.totS (N0 N1 : List Str) (S : List Sti) (side i : Nat) : Int := if side = 0 then ((N0.take i).map (sumOf S)).sum else (N0.map (sumOf S)).sum + ((N1.take i).map (sumOf S)).sum
theorem sum_takeS (N : List Str) (f : Str → Int) (i : Nat) (h : i < N.length) : ((N.take (i + 1)).map f).sum = ((N.take i).map f).sum + f (N.getD i .empty) := by
 have e : N.getD i .empty = N[i] := by simp [List.getD, List.getElem?_eq_getElem h]
 rw [List.take_add_one, List.getElem?_eq_getElem h, List.map_append, List.sum_append, e]
 show _ + (f N[i] + 0) = _
 rw [Int.add_zero]
theorem sum_bdS (N : List Str) (f : Str → Int) (B : Int) (hB : 0 ≤ B) (h : ∀ x, 0 ≤ f x ∧ f x ≤ B) : 0 ≤ (N.map f).sum ∧ (N.map f).sum ≤ N.length * B := by
 induction N with
 | nil => simp
 | cons a N ih =>
  have := h a
  rw [List.map_cons, List.sum_cons, List.length_cons]
  have e : ((N.length + 1 : Nat) : Int) * B = N.length * B + B := by rw [Int.natCast_add, Int.add_mul]; simp
  omega
theorem within_ok {n lo hi : Int} (h1 : lo ≤ n) (h2 : n ≤ hi) : withinE n lo hi = 0 := by
 have a : decide (n < lo) = false := decide_eq_false (by omega)
 have b : decide (n > hi) = false := decide_eq_false (by omega)
 unfold withinE whenE; rw [a, b]; rfl
theorem sided_ok {n : Int} (h : n = 0 ∨ n = 1) : sidedE n = 0 := by rcases h with rfl | rfl <;> rfl
theorem named_ok {s : Str} (h : isName s = true) : namedE s = 0 := by unfold namedE whenE; rw [h]; rfl
theorem firstE_zeros {a b c d : Int} (h1 : a = 0) (h2 : b = 0) (h3 : c = 0) (h4 : d = 0) : firstE [a, b, c, d] = 0 ∧ firstE [a, b, c] = 0 ∧ firstE [a, b] = 0 := by
 subst h1 h2 h3 h4; exact ⟨by decide, by decide, by decide⟩

/-- what the callees of LineupSteady do, in the worlds of its walk -/
structure StdC (P : World → Prop) (tc : List Value) (A : Option Addr) (n c : Nat) (l : List Chg) (N : Nat) (S : List Sti) (m : Nat) (N0 N1 : List Str) (m0 m1 : Nat) (ta : Nat → List Value) (wh : Nat → Nat → Nat → Str) (ix : Nat → Nat → Nat → Nat) (gn : Nat → Nat → List Str) (pq : Nat → Nat) : Prop where
 h13 : ∀ W, P W → Calls Tryz.prog 13 #[] W fun x w' => x = .returned (.bool true) ∧ Below W.heap.size W w'
 h34 : ∀ W, P W → Calls Tryz.prog 34 #[.agg (tc ++ [Value.slice A n c]).toArray] W fun x w' => x = .returned (.bool true) ∧ Below W.heap.size W w'
 h23 : ∀ W, Calls Tryz.prog 23 #[.agg tc.toArray] W fun x w' => x = .returned (.agg tc.toArray) ∧ Below W.heap.size W w'
 h24 : ∀ W, P W → Calls Tryz.prog 24 #[.slice A n c] W fun x w' => (∃ B d, x = .returned (.slice B n d) ∧ RdC w' B l ∧ ∀ a, B = some a → W.heap.size ≤ a.block ∧ a.block < w'.heap.size) ∧ Below W.heap.size W w'
 h44 : ∀ W B d, RdC W B l → Calls Tryz.prog 44 #[.agg tc.toArray, .slice B n d, .int .i64 N] W fun x w' => (∃ B0 c0, x = .returned (.tuple #[.slice B0 m c0, .int .i64 0]) ∧ RdS w' B0 S) ∧ Below W.heap.size W w'
 h36 : ∀ W B d, RdC W B l → Calls Tryz.prog 36 #[.agg tc.toArray, .slice B n d] W fun x w' => (∃ B0 c0 B1 c1, x = .returned (.tuple #[.agg #[.slice B0 m0 c0, .slice B1 m1 c1], .int .i64 0]) ∧ Rd w' B0 (N0.map .string) ∧ Rd w' B1 (N1.map .string)) ∧ Below W.heap.size W w'
 h35 : ∀ (k : Nat) W B d, k < N → RdC W B l → Calls Tryz.prog 35 #[.agg tc.toArray, .slice B n d, .int .i64 k] W fun x w' => x = .returned (.tuple #[.agg (ta k).toArray, .int .i64 0]) ∧ Below W.heap.size W w'
 h56 : ∀ (k : Nat) W, Calls Tryz.prog 56 #[.agg (ta k).toArray] W fun x w' => x = .returned (.int .i64 0) ∧ Below W.heap.size W w'
 h37 : ∀ (k side pos : Nat) W B d, k < N → side < 2 → 1 ≤ pos → pos ≤ 9 → RdC W B l → Calls Tryz.prog 37 #[.agg tc.toArray, .slice B n d, .int .i64 k, .int .i64 side, .int .i64 pos] W fun x w' => x = .returned (.tuple #[.string (wh k side pos), .int .i64 0]) ∧ Below W.heap.size W w'
 h49 : ∀ (k side pos : Nat) W B d, k < N → side < 2 → 1 ≤ pos → pos ≤ 9 → RdC W B l → Calls Tryz.prog 49 #[.agg tc.toArray, .slice B n d, .int .i64 k, .int .i64 side, .string (wh k side pos)] W fun x w' => x = .returned (.tuple #[.int .i64 ((ix k side pos : Int) + 1), .int .i64 0]) ∧ Below W.heap.size W w'
 h50 : ∀ (k side : Nat) W B d, k < N → side < 2 → RdC W B l → Calls Tryz.prog 50 #[.agg tc.toArray, .slice B n d, .int .i64 k, .int .i64 side] W fun x w' => (∃ B0 c0, x = .returned (.tuple #[.slice B0 (gn k side).length c0, .int .i64 0]) ∧ Rd w' B0 ((gn k side).map .string)) ∧ Below W.heap.size W w'
 h49g : ∀ (k side i : Nat) W B d, k < N → side < 2 → i < (gn k side).length → RdC W B l → Calls Tryz.prog 49 #[.agg tc.toArray, .slice B n d, .int .i64 ((N : Int) - 1), .int .i64 side, .string ((gn k side).getD i .empty)] W fun x w' => x = .returned (.tuple #[.int .i64 0, .int .i64 10]) ∧ Below W.heap.size W w'
 h51 : ∀ (name : Str) W B d, (name ∈ N0 ∨ name ∈ N1) → RdC W B l → Calls Tryz.prog 51 #[.agg tc.toArray, .slice B n d, .int .i64 N, .string name] W fun x w' => x = .returned (.tuple #[.int .i64 (sumOf S name), .int .i64 0]) ∧ Below W.heap.size W w'
 hi : ∀ k side pos, k < N → side < 2 → 1 ≤ pos → pos ≤ 9 → ix k side pos < 9 ∧ (ta k)[side * 18 + ix k side pos]? = some (.string (wh k side pos)) ∧ (ta k)[side * 18 + 9 + ix k side pos]? = some (.int .i64 pos)
 hg : ∀ k side, (gn k side).length ≤ 8
 st : StdS S N pq
 hm : S.length = m ∧ N0.length = m0 ∧ N1.length = m1 ∧ m0 ≤ 17 ∧ m1 ≤ 17
 hN : 1 ≤ N ∧ N ≤ 16
 sb : ∀ name i, i ≤ S.length → 0 ≤ sumOf (S.take i) name ∧ sumOf (S.take i) name ≤ 1600
 tb : ∀ side i, 0 ≤ totS N0 N1 S side i ∧ totS N0 N1 S side i ≤ 60000
 tl : totS N0 N1 S 1 m1 = 18 * N
 gc : TC tc
 ga : ∀ k, TC (ta k)

theorem std_facts (P : World → Prop) (w : World) (t : Tms) (ht : t.ok) (l : List Chg) (A : Option Addr) (n c K : Nat) (hn : l.length = n) (N : Nat) (hN : 1 ≤ N ∧ N ≤ 16) (hsz : ∀ s ∈ t.l0.b ++ t.l1.b, s.size ≤ 9223372036854775807) (hszl : ∀ d ∈ l, d.name.size ≤ 9223372036854775807) (hl : RdC w A l)
 (haw : ∀ W, Below w.heap.size w W → Calls Tryz.prog 13 #[] W fun x w' => x = .returned (.bool true) ∧ Below W.heap.size W w') (Gp : GP w t.cells A n c K P) (hv : validL t l = true) :
 StdC P t.cells A n c l N (allL t l N) (allL t l N).length (namesL t l 0) (namesL t l 1) (namesL t l 0).length (namesL t l 1).length (fun k => (atL t l k).cells) (whS t l) (ixS t l) (gnS t l) (posF (slotF t l N)) := by
 have hlW : ∀ W, P W → RdC W A l := fun W h => hl.below (Gp.below _ h)
 obtain ⟨hsh, h8, hcc⟩ := valid_parts hv
 have h8' : n ≤ 8 := by omega
 have hta : ∀ k : Int, (atL t l k).ok := fun k => atL_ok _ _ _ ht
 have hfi : ∀ k : Int, (atL t l k).fine := fun k => at_fine ht hcc k
 have hsd : ∀ side : Nat, side < 2 → (side : Int) = 0 ∨ (side : Int) = 1 := fun side h => by omega
 have hw : ∀ k : Nat, k ≤ N → withinE k 0 256 = 0 := fun k h => within_ok (by omega) (by omega)
 have hSt := steady_stints ht hcc h8 N hN.1
 have hwho : ∀ k side pos : Nat, side < 2 → 1 ≤ pos → pos ≤ 9 → ixS t l k side pos < 9 ∧ idxF (fun y => decide (y = whS t l k side pos)) ((atL t l k).get side).b = ixS t l k side pos ∧ ((atL t l k).get side).b.getD (ixS t l k side pos) .empty = whS t l k side pos ∧ ((atL t l k).get side).p.getD (ixS t l k side pos) 0 = pos := fun k side pos h1 h2 h3 => by
  obtain ⟨i, g1, g2, g3, g4⟩ := steady_who (hfi k) side (hsd side h1) pos (by omega)
  have e : ixS t l k side pos = i := by
   have : idxF (fun y => decide (y = whS t l k side pos)) ((atL t l k).get side).b = i := g2
   unfold ixS
   rw [this]; omega
  rw [e]
  exact ⟨g1, g2, g3, g4⟩
 have hnm : ∀ (k : Int) (side : Nat) (s : Str), side < 2 → s ∈ ((atL t l k).get side).b → isName s = true := fun k side s h1 h2 => (hfi k).nm s (by
  unfold Tms.all
  rcases hsd side h1 with e | e <;> rw [e] at h2
  ·
   exact List.mem_append_left _ h2
  ·
   exact List.mem_append_right _ h2)
 have hnames : ∀ s, s ∈ namesL t l 0 ∨ s ∈ namesL t l 1 → isName s = true := fun s hs => by
  have key : ∀ side, (∀ s ∈ (t.get side).b, isName s = true) → s ∈ namesL t l side → isName s = true := fun side h1 h2 => by
   unfold namesL at h2
   rw [namesL_mem t] at h2
   rcases h2 with h2 | ⟨d, hd, _, rfl⟩
   ·
    exact h1 s h2
   ·
    exact (checkC_zero ((cc_parts hcc).2.2.1 d hd)).2.2.2.2
  have hR := Run.start ht hcc
  rcases hs with hs | hs
  ·
   exact key 0 (fun s h => hR.nm s (List.mem_append_left _ h)) hs
  ·
   exact key 1 (fun s h => hR.nm s (List.mem_append_right _ h)) hs
 have hgone : ∀ (k side : Nat) (s : Str), side < 2 → s ∈ gnS t l k side → s ∈ namesL t l 0 ∨ s ∈ namesL t l 1 := fun k side s h1 hs => by
  have key : ∀ (l : List Chg) (t : Tms) (known : List Str) (prev : Option Chg) (k side : Int), Run t known prev l → s ∈ goneL t l k side → s ∈ t.all ∨ ∃ d ∈ l, d.name = s := fun l => by
   induction l with
   | nil => intro t known prev k side _ h; simp [goneL] at h
   | cons d r ih =>
    intro t known prev k side hR h
    unfold goneL at h
    split at h
    ·
     simp at h
    ·
     obtain ⟨c0, _⟩ := ccLoop_cons hR.cc
     obtain ⟨j, hj, e1, e2⟩ := made_all t hR.ok d (okS_of c0)
     rcases List.mem_append.1 h with h | h
     ·
      split at h
      ·
       rw [List.mem_singleton] at h
       rw [h, e2]
       exact .inl (List.getElem_mem _)
      ·
       simp at h
     ·
      rcases ih _ _ _ _ _ hR.step h with h | ⟨x, hx, e⟩
      ·
       rw [e1] at h
       rcases mem_set h with h | h
       ·
        exact .inl h
       ·
        exact .inr ⟨d, by simp, h.symm⟩
      ·
       exact .inr ⟨x, List.mem_cons_of_mem _ hx, e⟩
  have hmem : ∀ side x, x ∈ namesL t l side ↔ x ∈ (t.get side).b ∨ ∃ c ∈ l, c.side = side ∧ c.name = x := fun side x => by unfold namesL; rw [namesL_mem t]
  rw [hmem, hmem]
  rcases key l t t.all none k side (Run.start ht hcc) hs with h | ⟨d, hd, e⟩
  ·
   rcases List.mem_append.1 h with h | h
   ·
    exact .inl (.inl h)
   ·
    exact .inr (.inl h)
  ·
   rcases (okS_of ((cc_parts hcc).2.2.1 d hd)).1 with e2 | e2
   ·
    exact .inl (.inr ⟨d, hd, e2, e⟩)
   ·
    exact .inr (.inr ⟨d, hd, e2, e⟩)
 have hlen0 := names_lenL t ht l 0
 have hlen1 := names_lenL t ht l 1
 have hsb : ∀ name i, i ≤ (allL t l N).length → 0 ≤ sumOf ((allL t l N).take i) name ∧ sumOf ((allL t l N).take i) name ≤ 1600 := fun name i hi => by
  have := sumOf_bd (allL t l N) name N hSt.bd i hi
  have h1 := hSt.few.2
  have h2 : (i : Int) * N ≤ 100 * 16 := Int.mul_le_mul (by omega) (by omega) (by omega) (by omega)
  omega
 have hsall : ∀ name, 0 ≤ sumOf (allL t l N) name ∧ sumOf (allL t l N) name ≤ 1600 := fun name => by
  have := hsb name _ (Nat.le_refl _)
  rw [List.take_length] at this; exact this
 refine { h13 := fun W h => haw W (Gp.below _ h), h34 := ?_, h23 := fun W => given_any t ht _ rfl W, h24 := fun W h => list_any l A n c hn (by omega) W (hlW W h), h44 := ?_, h36 := ?_, h35 := ?_, h56 := ?_, h37 := ?_, h49 := ?_, h50 := ?_, h49g := ?_, h51 := ?_, hi := ?_, hg := ?_, st := hSt, hm := ⟨rfl, rfl, rfl, by omega, by omega⟩, hN := hN, sb := hsb, tb := ?_, tl := ?_, gc := tc_of t ht, ga := fun k => tc_of _ (hta k) }
 ·
  intro W h
  have := valid_any t ht _ l A n c rfl hn hsz hszl W (hlW W h)
  rw [hv] at this; exact this
 ·
  intro W B d h
  refine (stintsAll_any t ht _ rfl l B n d hn N W h).mono fun x w' ⟨⟨v, e, hs⟩, hb⟩ => ?_
  have e0 : stintsR t l N = (allL t l N, 0) := by
   unfold stintsR ccIdx
   rw [(firstE_zeros hcc (hw N (Nat.le_refl _)) rfl rfl).2.2]; rfl
  rw [e0] at e hs
  obtain ⟨hx, B0, c0, rfl, hr⟩ := hs
  exact ⟨⟨B0, c0, e, RdS.of_slk ⟨hx, B0, c0, rfl, hr⟩⟩, hb⟩
 ·
  intro W B d h
  refine (names_any t ht _ rfl l B n d hn W h).mono fun x w' ⟨⟨v0, v1, e, h0, h1⟩, hb⟩ => ?_
  have e0 : ∀ side, namesR t l side = namesL t l side := fun side => by unfold namesR; rw [hcc]; rfl
  rw [e0, e0] at *
  obtain ⟨_, B0, c0, rfl, hr0⟩ := h0
  obtain ⟨_, B1, c1, rfl, hr1⟩ := h1
  rw [hcc] at e
  exact ⟨⟨B0, c0, B1, c1, e, hr0, hr1⟩, hb⟩
 ·
  intro k W B d hk h
  have := At_any t ht _ rfl l B n d hn k W h
  have e0 : atR t l k = (atL t l k, 0) := by
   unfold atR ccIdx
   rw [(firstE_zeros hcc (hw k (by omega)) rfl rfl).2.2]; rfl
  rw [e0] at this; exact this
 ·
  intro k W
  have := checkTeams_any (atL t l k) (hta k) _ rfl W
  rw [fine_teams (hfi k)] at this; exact this
 ·
  intro k side pos W B d hk h1 h2 h3 h
  have := who_any t ht _ rfl l B n d hn k side pos W h
  have e0 : whoR t l k side pos = (whS t l k side pos, 0) := by
   unfold whoR
   rw [(firstE_zeros hcc (hw k (by omega)) (sided_ok (hsd side h1)) (within_ok (n := pos) (lo := 1) (hi := 9) (by omega) (by omega))).1]; rfl
  rw [e0] at this; exact this
 ·
  intro k side pos W B d hk h1 h2 h3 h
  have := slotOf_any t ht _ rfl l B n d hn k side (whS t l k side pos) W h
  obtain ⟨g1, g2, g3, _⟩ := hwho k side pos h1 h2 h3
  have hin : whS t l k side pos ∈ ((atL t l k).get side).b := by
   rw [← g3]
   have hlt : ixS t l k side pos < ((atL t l k).get side).b.length := by rw [(Tms.get_ok _ (hta k) side).1]; exact g1
   simp [List.getD, List.getElem?_eq_getElem hlt]
  have e0 : slotOfR t l k side (whS t l k side pos) = ((ixS t l k side pos : Int) + 1, 0) := by
   unfold slotOfR
   rw [(firstE_zeros hcc (hw k (by omega)) (sided_ok (hsd side h1)) (named_ok (hnm k side _ h1 hin))).1, g2, if_neg (by simp)]
   have : decide ((ixS t l k side pos : Int) < 0) = false := decide_eq_false (by omega)
   rw [this]; rfl
  rw [e0] at this; exact this
 ·
  intro k side W B d hk h1 h
  refine (gone_any t ht _ rfl l B n d hn k side W h).mono fun x w' ⟨⟨v, e, hs⟩, hb⟩ => ?_
  have e0 : goneR t l k side = (gnS t l k side, 0) := by
   unfold goneR
   rw [(firstE_zeros hcc (hw k (by omega)) (sided_ok (hsd side h1)) (rfl : (0 : Int) = 0)).2.1]; rfl
  rw [e0] at e hs
  obtain ⟨_, B0, c0, rfl, hr⟩ := hs
  exact ⟨⟨B0, c0, e, hr⟩, hb⟩
 ·
  intro k side i W B d hk h1 hi h
  have := slotOf_any t ht _ rfl l B n d hn ((N : Int) - 1) side ((gnS t l k side).getD i .empty) W h
  have hin : (gnS t l k side).getD i .empty ∈ gnS t l k side := by simp [List.getD, List.getElem?_eq_getElem hi]
  have g2 := steady_gone ht hcc side k ((N : Int) - 1) (hsd side h1) (by omega) _ hin
  have e0 : slotOfR t l ((N : Int) - 1) side ((gnS t l k side).getD i .empty) = (0, 10) := by
   unfold slotOfR
   rw [(firstE_zeros hcc (within_ok (n := (N : Int) - 1) (lo := 0) (hi := 256) (by omega) (by omega)) (sided_ok (hsd side h1)) (named_ok (hnames _ (hgone k side _ h1 hin)))).1, g2]; rfl
  rw [e0] at this; exact this
 ·
  intro name W B d hm h
  have := played_any t ht _ rfl l B n d hn N name W h
  have e0 : playedR t l N name = (sumOf (allL t l N) name, 0) := by
   unfold playedR playedE
   have hk : knownIn t l name = true := by
    rw [known_eq t l name (fun d hd => (okS_all hcc d hd).1)]
    rcases hm with hm | hm <;> simp [hm]
   rw [(firstE_zeros hcc (hw N (Nat.le_refl _)) (named_ok (hnames _ hm)) (rfl : (0 : Int) = 0)).2.1, hk]; rfl
  rw [e0] at this; exact this
 ·
  intro k side pos hk h1 h2 h3
  obtain ⟨g1, _, g3, g4⟩ := hwho k side pos h1 h2 h3
  refine ⟨g1, ?_, ?_⟩
  ·
   rcases (show side = 0 ∨ side = 1 by omega) with rfl | rfl
   ·
    rw [Nat.zero_mul, Nat.zero_add, Tms.cell_b0 _ (hta k) _ g1]; rw [show (atL t l k).l0 = (atL t l k).get (0 : Nat) from rfl, g3]
   ·
    rw [Nat.one_mul, Tms.cell_b1 _ (hta k) _ g1]; rw [show (atL t l k).l1 = (atL t l k).get (1 : Nat) from rfl, g3]
  ·
   rcases (show side = 0 ∨ side = 1 by omega) with rfl | rfl
   ·
    rw [Nat.zero_mul, Nat.zero_add, Tms.cell_p0 _ (hta k) _ g1]; rw [show (atL t l k).l0 = (atL t l k).get (0 : Nat) from rfl, g4]
   ·
    rw [Nat.one_mul, Tms.cell_p1 _ (hta k) _ g1]; rw [show (atL t l k).l1 = (atL t l k).get (1 : Nat) from rfl, g4]
 ·
  intro k side
  have := goneL_len l t k side
  unfold gnS; omega
 ·
  intro side i
  have b0 := sum_bdS (namesL t l 0) (sumOf (allL t l N)) 1600 (by omega) hsall
  have b1 := sum_bdS ((namesL t l 0).take i) (sumOf (allL t l N)) 1600 (by omega) hsall
  have b2 := sum_bdS ((namesL t l 1).take i) (sumOf (allL t l N)) 1600 (by omega) hsall
  have l1 : ((namesL t l 0).take i).length ≤ 17 := by rw [List.length_take]; omega
  have l2 : ((namesL t l 1).take i).length ≤ 17 := by rw [List.length_take]; omega
  have l0 : (namesL t l 0).length ≤ 17 := by omega
  unfold totS
  split <;> omega
 ·
  have := steady_total ht hcc N
  rw [List.map_append, List.sum_append] at this
  unfold totS
  rw [if_neg (by omega), List.take_length]
  exact this
end Go.Proofs.YtmagppkclnebjaaGreatDoor
