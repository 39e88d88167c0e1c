/- What LineupPlayers' callees do, and what their answers are to one another. -/
import Derived.Test.YtmagppkclnebjaaGreatDoorH7
import Derived.Test.YtmagppkclnebjaaGreatDoorH8
import Derived.Test.YtmagppkclnebjaaGreatDoorH9
import Derived.Test.YtmagppkclnebjaaGreatDoorD7
import Derived.Test.YtmagppkclnebjaaGreatDoorA20
import Derived.Test.YtmagppkclnebjaaGreatDoorQp
set_option linter.unusedVariables false
set_option linter.unusedSimpArgs false
set_option linter.unusedSimpArgs false
set_option linter.unusedVariables false
namespace Go.Proofs.YtmagppkclnebjaaGreatDoor
open Go.RowKit
open L

theorem firstE_one (e : Int) : firstE [e] = e := by unfold firstE firstE; by_cases h : e = 0 <;> simp [h]
/-- the error of a name, joined as the laws join it -/
theorem named_if (e : Int) (s : Str) : firstE [e, namedE s] = if isName s then e else firstE [e, 8] := by
 rw [firstE_two, firstE_two]
 unfold namedE whenE
 cases h : isName s
 ·
  rfl
 ·
  by_cases e0 : e = 0 <;> simp [e0]
theorem err3n (cc p e : Int) : firstE [cc, withinE p 0 256, e] = firstE [firstE [cc, withinE p 0 256], e] := by
 have := firstE_append [cc, withinE p 0 256] [e]
 rw [firstE_one] at this
 rw [firstE_two]
 exact this
theorem playedA_eq {t : Tms} {l : List Chg} (h : checkChanges t l = 0) (name : Str) (n : Nat) : playedA t l name n = playedN t l name n := by
 unfold playedA playedN
 congr 1
 funext k
 rw [atAll_eq l t k (plays_sorted (cc_sorted h))]

/-- what the callees of LineupPlayers do, in the worlds of its walk -/
structure PlyC (P : World → Prop) (g : Nat) (tc ta xc : List Value) (A : Option Addr) (n c : Nat) (x0 x1 : Int) (name : Str) (nm : Bool) (l : List Chg) (cc bad two one3 three3 : Int) (sv se : Int) (GN : List Str) (gm : Nat) (cv ce : Int) (N0 N1 : List Str) (m0 m1 : Nat) : Prop where
 hx : ∀ X, P X → X.cell? ⟨g, 0, none⟩ = some (.int .i64 x0) ∧ X.cell? ⟨g, 1, none⟩ = some (.int .i64 x1)
 h13 : ∀ W, P W → Calls Tryz.prog 13 #[] W fun x w' => x = .returned (.bool true) ∧ Below W.heap.size W w'
 h21 : ∀ W, P W → Calls Tryz.prog 21 #[.agg (tc ++ [Value.slice A n c]).toArray] W fun x w' => x = .returned (.bool true) ∧ Below W.heap.size W w'
 h23 : ∀ W, Calls Tryz.prog 23 #[.agg tc.toArray] W fun x w' => x = .returned (.agg tc.toArray) ∧ Below W.heap.size W w'
 h24 : ∀ W, P W → Calls Tryz.prog 24 #[.slice A n c] W fun x w' => (∃ B d, x = .returned (.slice B n d) ∧ RdC w' B l ∧ ∀ a, B = some a → W.heap.size ≤ a.block ∧ a.block < w'.heap.size) ∧ Below W.heap.size W w'
 h49 : ∀ W B d, RdC W B l → Calls Tryz.prog 49 #[.agg tc.toArray, .slice B n d, .int .i64 x0, .int .i64 x1, .string name] W fun x w' => x = .returned (.tuple #[.int .i64 sv, .int .i64 se]) ∧ Below W.heap.size W w'
 h50 : ∀ W B d, RdC W B l → Calls Tryz.prog 50 #[.agg tc.toArray, .slice B n d, .int .i64 x0, .int .i64 x1] W fun x w' => (∃ B0 c0, x = .returned (.tuple #[.slice B0 gm c0, .int .i64 two]) ∧ Rd w' B0 (GN.map .string)) ∧ Below W.heap.size W w'
 h51 : ∀ W B d, RdC W B l → Calls Tryz.prog 51 #[.agg tc.toArray, .slice B n d, .int .i64 x0, .string name] W fun x w' => x = .returned (.tuple #[.int .i64 cv, .int .i64 ce]) ∧ Below W.heap.size W w'
 h26 : ∀ W, P W → Calls Tryz.prog 26 #[.agg tc.toArray, .slice A n c] W fun x w' => x = .returned (.int .i64 cc) ∧ Below W.heap.size W w'
 h52 : ∀ W, Calls Tryz.prog 52 #[.string name] W fun x w' => x = .returned (.bool nm) ∧ W = w'
 h40 : one3 = 0 → ∀ W, P W → Calls Tryz.prog 40 #[.agg tc.toArray, .slice A n c, .int .i64 x0] W fun x w' => x = .returned (.agg ta.toArray) ∧ Below W.heap.size W w'
 hs : one3 = 0 → 0 ≤ x1 ∧ x1 < 2
 hix : one3 = 0 → ∀ W, (Instr.index 46 (.agg ta.toArray) (.int .i64 x1)).run Tryz.prog W = .ok (.agg xc.toArray) W
 h33 : one3 = 0 → ∀ W, Calls Tryz.prog 33 #[.agg xc.toArray, .string name] W fun x w' => x = .returned (.int .i64 sv) ∧ Below W.heap.size W w'
 hs0 : one3 = 0 → sv = 0 → se = 10
 hs1 : one3 = 0 → sv ≠ 0 → se = 0
 hs2 : one3 ≠ 0 → sv = 0 ∧ se = one3
 h53 : two = 0 → ∀ W, P W → Calls Tryz.prog 53 #[.agg tc.toArray, .slice A n c, .int .i64 x0, .int .i64 x1] W fun x w' => (∃ B d, x = .returned (.slice B gm d) ∧ Rd w' B (GN.map .string)) ∧ Below W.heap.size W w'
 hg0 : two ≠ 0 → gm = 0
 hgl : GN.length = gm ∧ gm ≤ 100000
 h430 : three3 = 0 → ∀ W, P W → Calls Tryz.prog 43 #[.agg tc.toArray, .slice A n c, .int .i64 0] W fun x w' => (∃ B d, x = .returned (.slice B m0 d) ∧ Rd w' B (N0.map .string)) ∧ Below W.heap.size W w'
 h431 : three3 = 0 → ∀ W, P W → Calls Tryz.prog 43 #[.agg tc.toArray, .slice A n c, .int .i64 1] W fun x w' => (∃ B d, x = .returned (.slice B m1 d) ∧ Rd w' B (N1.map .string)) ∧ Below W.heap.size W w'
 hnl : N0.length = m0 ∧ N1.length = m1 ∧ m0 ≤ 100000 ∧ m1 ≤ 100000
 hk0 : three3 = 0 → name ∉ N0 → name ∉ N1 → cv = 0 ∧ ce = 10
 hk1 : three3 = 0 → (name ∈ N0 ∨ name ∈ N1) → ce = 0 ∧ ∀ W, P W → Calls Tryz.prog 55 #[.agg tc.toArray, .slice A n c, .int .i64 x0, .string name] W fun x w' => x = .returned (.int .i64 cv) ∧ Below W.heap.size W w'
 hk2 : three3 ≠ 0 → cv = 0 ∧ ce = three3
 hbad : firstE [cc, withinE x0 0 256] = bad
 htwo : sideE bad x1 = two
 hone : one3 = if nm then two else firstE [two, 8]
 hthree : three3 = if nm then bad else firstE [bad, 8]

theorem ply_facts (P : World → Prop) (w : World) (t : Tms) (ht : t.ok) (l : List Chg) (A : Option Addr) (n c : Nat) (hn : l.length = n) (x0 x1 : Int) (name : Str) (hnm : name.size ≤ 60) (hle : n ≤ 66) (h20 : x0 ≤ 20 ∨ 256 < x0) (hsz : ∀ s ∈ t.l0.b ++ t.l1.b, s.size ≤ 9223372036854775807) (hszl : ∀ d ∈ l, d.name.size ≤ 9223372036854775807) (hl : RdC w A l)
 (haw : ∀ W, Below w.heap.size w W → Calls Tryz.prog 13 #[] W fun x w' => x = .returned (.bool true) ∧ Below W.heap.size W w') (Gp : GP w t.cells A n c 2 P) (hbx : ∀ X, P X → Bk X (w.heap.size + 1) 95 #[.int .i64 x0, .int .i64 x1]) (hsh : shortL t l = true) :
 PlyC P (w.heap.size + 1) t.cells (atAll t l x0).cells ((atAll t l x0).get x1).cells A n c x0 x1 name (isName name) l (checkChanges t l) (firstE [checkChanges t l, withinE x0 0 256]) (sideE (firstE [checkChanges t l, withinE x0 0 256]) x1)
  (if isName name then sideE (firstE [checkChanges t l, withinE x0 0 256]) x1 else firstE [sideE (firstE [checkChanges t l, withinE x0 0 256]) x1, 8]) (if isName name then firstE [checkChanges t l, withinE x0 0 256] else firstE [firstE [checkChanges t l, withinE x0 0 256], 8])
  (slotOfR t l x0 x1 name).1 (slotOfR t l x0 x1 name).2 (goneR t l x0 x1).1 (goneR t l x0 x1).1.length (playedR t l x0 name).1 (playedR t l x0 name).2 (namesL t l 0) (namesL t l 1) (namesL t l 0).length (namesL t l 1).length := by
 have hlW : ∀ W, P W → RdC W A l := fun W h => hl.below (Gp.below _ h)
 have e1 : ∀ e, (if isName name then e else firstE [e, 8]) = firstE [e, namedE name] := fun e => (named_if e name).symm
 rw [e1, e1, ← err3, ← err3n]
 have okc : ∀ {e : Int}, firstE [checkChanges t l, withinE x0 0 256, e] = 0 → checkChanges t l = 0 := fun h => (firstE3 h).1
 refine { hx := ?_, h13 := fun W h => haw W (Gp.below _ h), h21 := ?_, h23 := fun W => given_any t ht _ rfl W, h24 := fun W h => list_any l A n c hn (by omega) W (hlW W h), h49 := fun W B d h => slotOf_any t ht _ rfl l B n d hn x0 x1 name W h, h50 := ?_, h51 := fun W B d h => played_any t ht _ rfl l B n d hn x0 name W h, h26 := fun W h => refCheck_any t ht _ rfl l A n c hn (by omega) hsz hszl W (hlW W h), h52 := fun W => refName_any name (by omega) W, h40 := ?_, hs := ?_, hix := ?_, h33 := ?_, hs0 := ?_, hs1 := ?_, hs2 := ?_, h53 := ?_, hg0 := ?_, hgl := ?_, h430 := ?_, h431 := ?_, hnl := ?_, hk0 := ?_, hk1 := ?_, hk2 := ?_, hbad := rfl, htwo := rfl, hone := ?_, hthree := ?_ }
 ·
  intro X h
  have hb := hbx X h
  refine ⟨?_, ?_⟩ <;> rw [hb.cell] <;> rfl
 ·
  intro W h
  have := short_any t ht _ l A n c rfl hn W (hlW W h)
  rw [hsh] at this; exact this
 ·
  intro W B d h
  refine (gone_any t ht _ rfl l B n d hn x0 x1 W h).mono fun x w' ⟨⟨v, e, hv⟩, hb⟩ => ?_
  obtain ⟨_, B0, c0, rfl, hr0⟩ := hv
  refine ⟨⟨B0, c0, ?_, hr0⟩, hb⟩
  rw [e, ← err2]
  congr 5
  unfold goneR
  split
  ·
   rfl
  ·
   rename_i h0; simp at h0; rw [h0]
 ·
  intro h0 W h
  exact refAt_any t ht _ rfl l A n c hn (by omega) (okS_all (firstE4 h0).1) x0 W (hlW W h)
 ·
  intro h0
  rcases sidedE_zero (firstE4 h0).2.2.1 with e | e <;> omega
 ·
  intro h0 W
  exact run_index46 W _ (atAll_ok l t x0 ht) x1 (sidedE_zero (firstE4 h0).2.2.1)
 ·
  intro h0 W
  have e : (slotOfR t l x0 x1 name).1 = idxF (fun y => decide (y = name)) ((atAll t l x0).get x1).b + 1 := by
   unfold slotOfR
   rw [if_neg (by rw [h0]; simp), atAll_eq l t x0 (plays_sorted (cc_sorted (firstE4 h0).1))]
  rw [e]
  exact refSlot_any _ (Tms.get_ok _ (atAll_ok l t x0 ht) x1) _ rfl name W
 ·
  intro h0
  unfold slotOfR
  rw [if_neg (by rw [h0]; simp)]
  intro h1
  have : idxF (fun y => decide (y = name)) ((atL t l x0).get x1).b < 0 := by dsimp only at h1; omega
  simp [whenE, this]
 ·
  intro h0
  unfold slotOfR
  rw [if_neg (by rw [h0]; simp)]
  intro h1
  have hb := (idxF_bd (fun y => decide (y = name)) ((atL t l x0).get x1).b).1
  have : ¬ idxF (fun y => decide (y = name)) ((atL t l x0).get x1).b < 0 := by dsimp only at h1; omega
  simp [whenE, this]
 ·
  intro h0
  unfold slotOfR
  rw [if_pos h0]
  exact ⟨rfl, rfl⟩
 ·
  intro h0 W h
  rw [← err2] at h0
  have hc := (firstE3 h0).1
  have e : (goneR t l x0 x1).1 = refGoneL t l x0 x1 := by
   unfold goneR
   rw [if_neg (by rw [h0]; simp), gone_eq l t x0 x1 (plays_sorted (cc_sorted hc))]
  rw [e]
  exact refGone_any t ht _ rfl l A n c hn (by omega) (okS_all hc) x0 x1 W (hlW W h)
 ·
  intro h0
  rw [← err2] at h0
  unfold goneR
  rw [if_pos h0]; rfl
 ·
  refine ⟨rfl, ?_⟩
  have := goneL_len l t x0 x1
  unfold goneR
  split
  ·
   exact Nat.zero_le _
  ·
   show (goneL t l x0 x1).length ≤ 100000
   omega
 ·
  intro h0 W h
  exact refNames_any t ht _ rfl l A n c hn (by omega) 0 (.inl rfl) W (hlW W h)
 ·
  intro h0 W h
  exact refNames_any t ht _ rfl l A n c hn (by omega) 1 (.inr rfl) W (hlW W h)
 ·
  have h0 := names_lenL t ht l 0
  have h1 := names_lenL t ht l 1
  exact ⟨rfl, rfl, by omega, by omega⟩
 ·
  intro h0 h1 h2
  have hk := known_eq t l name (fun d hd => (okS_all (okc h0) d hd).1)
  rw [decide_eq_false h1, decide_eq_false h2] at hk
  unfold playedR playedE
  rw [if_neg (by rw [h0]; simp), if_neg (by rw [hk]; simp)]
  exact ⟨rfl, rfl⟩
 ·
  intro h0 h1
  have hc := okc h0
  have hk := known_eq t l name (fun d hd => (okS_all hc d hd).1)
  have hk' : knownIn t l name = true := by
   rw [hk]
   rcases h1 with h1 | h1 <;> simp [h1]
  have hw := withinE_zero (firstE3 h0).2.1
  obtain ⟨N, rfl⟩ : ∃ N : Nat, x0 = (N : Int) := ⟨x0.toNat, by omega⟩
  have e : playedR t l N name = ((playedA t l name N : Int), 0) := by
   unfold playedR playedE
   rw [if_neg (by rw [h0]; simp), if_pos hk', played_ref ht hc, playedA_eq hc]
  rw [e]
  exact ⟨rfl, fun W h => refPlayed_any t ht _ rfl l A n c hn (by omega) (okS_all hc) N (by omega) name W (hlW W h)⟩
 ·
  intro h0
  unfold playedR playedE
  rw [if_pos h0]
  exact ⟨rfl, rfl⟩
 ·
  rw [err3, ← named_if]
 ·
  rw [err3n, ← named_if]
end Go.Proofs.YtmagppkclnebjaaGreatDoor
