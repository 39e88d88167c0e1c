/- Plain facts for the laws on games: first errors joined; what At and Who answer against the reference. What a walk through such a law carries. -/
import Derived.Test.YtmagppkclnebjaaGreatDoorH5
set_option linter.unusedVariables false
set_option linter.unusedSimpArgs false
set_option linter.unusedSimpArgs false
set_option linter.unusedVariables false
namespace Go.Proofs.YtmagppkclnebjaaGreatDoor
open Go.RowKit
open L

theorem firstE_append : ∀ (a b : List Int), firstE (a ++ b) = if firstE a = 0 then firstE b else firstE a
 | [], b => by simp [firstE]
 | e :: r, b => by
  have e1 : ∀ q : List Int, firstE (e :: q) = if e = 0 then firstE q else e := fun _ => rfl
  rw [List.cons_append, e1, e1]
  by_cases h : e = 0
  ·
   rw [if_pos h, if_pos h, firstE_append r b]
  ·
   rw [if_neg h, if_neg h, if_neg h]
/-- the error of a side, joined as the laws join it -/
def sideE (one side : Int) : Int := if one = 0 ∧ side ≠ 0 ∧ side ≠ 1 then 17 else one
theorem sideE_eq (one side : Int) : sideE one side = if one = 0 then sidedE side else one := by
 unfold sideE
 by_cases h : one = 0
 ·
  rw [if_pos h]
  by_cases h2 : side ≠ 0 ∧ side ≠ 1
  ·
   rw [if_pos ⟨h, h2⟩]; simp [sidedE, whenE, h2.1, h2.2]
  ·
   rw [if_neg (fun x => h2 x.2), h]
   have : side = 0 ∨ side = 1 := by omega
   rcases this with e | e <;> simp [sidedE, whenE, e]
 ·
  rw [if_neg (fun x => h x.1), if_neg h]
theorem firstE_two (a b : Int) : firstE [a, b] = if a = 0 then b else a := by
 unfold firstE firstE firstE
 split
 ·
  by_cases h : b = 0 <;> simp [h]
 ·
  rfl
theorem err2 (cc p side : Int) : firstE [cc, withinE p 0 256, sidedE side] = sideE (firstE [cc, withinE p 0 256]) side := by
 have := firstE_append [cc, withinE p 0 256] [sidedE side]
 rw [sideE_eq]
 have e : firstE [sidedE side] = sidedE side := by unfold firstE firstE; by_cases h : sidedE side = 0 <;> simp [h]
 rw [e] at this
 exact this
theorem err3 (cc p side e : Int) : firstE [cc, withinE p 0 256, sidedE side, e] = firstE [sideE (firstE [cc, withinE p 0 256]) side, e] := by
 rw [← err2]
 have := firstE_append [cc, withinE p 0 256, sidedE side] [e]
 have e1 : firstE [e] = e := by unfold firstE firstE; by_cases h : e = 0 <;> simp [h]
 rw [e1] at this
 rw [firstE_two]
 exact this
theorem atR_two (t : Tms) (l : List Chg) (p : Int) : (atR t l p).2 = firstE [checkChanges t l, withinE p 0 256] := by
 unfold atR
 show _ = ccIdx t l p
 split
 ·
  rfl
 ·
  rename_i h
  have : ccIdx t l p = 0 := by omega
  rw [this]
theorem atR_one {t : Tms} {l : List Chg} {p : Int} (h : firstE [checkChanges t l, withinE p 0 256] = 0) : (atR t l p).1 = atAll t l p := by
 unfold atR
 rw [if_neg (by show ¬ firstE _ ≠ 0; rw [h]; simp)]
 exact (atAll_eq l t p (plays_sorted (cc_sorted (firstE2 h).1))).symm
theorem atR_bad {t : Tms} {l : List Chg} {p : Int} (h : firstE [checkChanges t l, withinE p 0 256] ≠ 0) : (atR t l p).1 = Tms.zero := by
 unfold atR
 rw [if_pos (show ccIdx t l p ≠ 0 from h)]
theorem atR_ok (t : Tms) (ht : t.ok) (l : List Chg) (p : Int) : (atR t l p).1.ok := by
 unfold atR
 split
 ·
  exact Tms.zero_ok
 ·
  exact atL_ok l t p ht
theorem whoR_two (t : Tms) (l : List Chg) (p side pos : Int) : (whoR t l p side pos).2 = firstE [sideE (firstE [checkChanges t l, withinE p 0 256]) side, withinE pos 1 9] := by
 rw [← err3]
 unfold whoR
 split
 ·
  rfl
 ·
  rename_i h
  have : firstE [checkChanges t l, withinE p 0 256, sidedE side, withinE pos 1 9] = 0 := by omega
  rw [this]
theorem whoR_one {t : Tms} (ht : t.ok) {l : List Chg} {p side pos : Int} (h : firstE [sideE (firstE [checkChanges t l, withinE p 0 256]) side, withinE pos 1 9] = 0) :
 (whoR t l p side pos).1 = refWho ((atAll t l p).get side) pos ∧ (side = 0 ∨ side = 1) ∧ checkChanges t l = 0 := by
 rw [← err3] at h
 obtain ⟨h0, h1, h2, h3⟩ := firstE4 h
 refine ⟨?_, sidedE_zero h2, h0⟩
 unfold whoR
 rw [if_neg (by rw [h]; simp), atAll_eq l t p (plays_sorted (cc_sorted h0))]
 exact (fine_who (at_fine ht h0 p) side (sidedE_zero h2) pos (withinE_zero h3)).symm
theorem whoR_bad {t : Tms} {l : List Chg} {p side pos : Int} (h : firstE [sideE (firstE [checkChanges t l, withinE p 0 256]) side, withinE pos 1 9] ≠ 0) : (whoR t l p side pos).1 = .empty := by
 rw [← err3] at h
 unfold whoR
 rw [if_pos h]

theorem cell_far {g : Nat} {p : Addr} (hne : p.block ≠ g) : ∀ (vs : List Value) (q : Nat) (W : World), (W.setCells g q vs).cell? p = W.cell? p
 | [], _, _ => rfl
 | v :: r, q, W => (cell_far hne r (q + 1) (W.setCell ⟨g, q, none⟩ v)).trans (World.cell?_of_block (Below.heap_setCell W ⟨g, q, none⟩ v p.block hne))
theorem rdc_sets {W : World} {B : Option Addr} {l : List Chg} {g : Nat} (h : RdC W B l) (hne : ∀ a, B = some a → a.block ≠ g) (vs : List Value) : RdC (W.setCells g 0 vs) B l := fun k hk => by
 obtain ⟨b, off, rfl, hc⟩ := h k hk
 exact ⟨b, off, rfl, fun j hj => (cell_far (p := ⟨b, off + k * 5 + j, none⟩) (show b ≠ g from hne ⟨b, off, none⟩ rfl) vs 0 W).trans (hc j hj)⟩
theorem lfirst2 (e1 e2 : Int) (b : Nat) (t : TypeId) (fr : Nat × Nat) (W : World) (hb : W.heap[b]? = some (.cells #[.int .i64 e1, .int .i64 e2] t fr)) :
 Calls Tryz.prog 38 #[.slice (some ⟨b, 0, none⟩) 2 2] W fun x w' => x = .returned (.int .i64 (firstE [e1, e2])) ∧ W = w' :=
 lawFirst_any [e1, e2] _ 2 2 W rfl (by omega) (Rd.of_block hb)
theorem info54T : (Tryz.prog.info? 54).map (·.size) = some 36 := by kernel_rfl
theorem info46T : (Tryz.prog.info? 46).map (·.size) = some 36 := by kernel_rfl
theorem info49T : (Tryz.prog.info? 49).map (·.size) = some 37 := by kernel_rfl
theorem g_len (t : Tms) (ht : t.ok) (v : Value) : (t.cells ++ [v]).length = 37 := by rw [List.length_append, Tms.cells_len t ht]; rfl
/-- the cells of teams -/
structure TC (tc : List Value) : Prop where
 s36 : tc.toArray.size = 36
 one : tc.toArray.all (·.oneCell') = true
 i54 : (Tryz.prog.info? 54).map (·.size) = some tc.toArray.size
 i46 : (Tryz.prog.info? 46).map (·.size) = some tc.toArray.size
 l54 : (Tryz.prog.info? 54).map (·.size) = some tc.length
 l46 : (Tryz.prog.info? 46).map (·.size) = some tc.length
theorem tc_of (t : Tms) (ht : t.ok) : TC t.cells :=
 ⟨Tms.size36 t ht, Tms.oneCell t, by rw [Tms.size36 t ht, info54T], by rw [Tms.size36 t ht, info46T], by rw [Tms.cells_len t ht, info54T], by rw [Tms.cells_len t ht, info46T]⟩
/-- what holds of each world of a walk through a law on games: K blocks hold its arguments, the game is the first of them -/
structure GP (w : World) (tc : List Value) (A : Option Addr) (n c K : Nat) (P : World → Prop) : Prop where
 kp : Keep P
 below : ∀ X, P X → Below w.heap.size w X
 r : ∀ X, P X → X.rangeAt w.heap.size 0 tc
 c36 : ∀ X, P X → X.cell? ⟨w.heap.size, 36, none⟩ = some (.slice A n c)
 rg : ∀ X, P X → X.rangeAt w.heap.size 0 (tc ++ [Value.slice A n c])
 sets : ∀ X g cs, P X → w.heap.size + K ≤ g → P (X.setCells g 0 cs)
 lo : ∀ X, P X → w.heap.size + K ≤ X.heap.size
 i49 : (Tryz.prog.info? 49).map (·.size) = some (tc ++ [Value.slice A n c]).length
theorem gp_of2 (t : Tms) (ht : t.ok) (A : Option Addr) (n c : Nat) (G : Array Value) (hG : G = (t.cells ++ [Value.slice A n c]).toArray) (X3 : Array Value) (tx : TypeId) (w : World) :
 ∃ P : World → Prop, GP w t.cells A n c 2 P ∧ P ((w.alloc (.cells G 49)).alloc (.cells X3 tx)) ∧ ∀ X, P X → Bk X (w.heap.size + 1) tx X3 := by
 have F0 : Below w.heap.size w ((w.alloc (.cells G 49)).alloc (.cells X3 tx)) ∧ Bk ((w.alloc (.cells G 49)).alloc (.cells X3 tx)) w.heap.size 49 (t.cells ++ [Value.slice A n c]).toArray ∧ Bk ((w.alloc (.cells G 49)).alloc (.cells X3 tx)) (w.heap.size + 1) tx X3 := by
  refine ⟨bt_alloc (bt_new w _) _, by rw [← hG]; exact (Bk.new w 49 G).alloc _, ?_⟩
  have := Bk.new (w.alloc (.cells G 49)) tx X3
  rwa [World.size_alloc] at this
 refine ⟨fun X => Below w.heap.size w X ∧ Bk X w.heap.size 49 (t.cells ++ [Value.slice A n c]).toArray ∧ Bk X (w.heap.size + 1) tx X3, ⟨keep_and (keep_below w) (keep_and (keep_bk _ _ _) (keep_bk _ _ _)), fun X h => h.1, fun X h => g_range h.2.1, fun X h => g_slice ht h.2.1, fun X h => bkRangeT h.2.1, fun X g cs h hg => ⟨below_sets (by omega) h.1 _ _, Bk.setsFar (by omega) _ _ h.2.1, Bk.setsFar (by omega) _ _ h.2.2⟩, fun X h => by have := h.2.2.lt; omega, by rw [g_len t ht, info49T]⟩, F0, fun X h => h.2.2⟩
theorem gp_of1 (t : Tms) (ht : t.ok) (A : Option Addr) (n c : Nat) (G : Array Value) (hG : G = (t.cells ++ [Value.slice A n c]).toArray) (w : World) :
 ∃ P : World → Prop, GP w t.cells A n c 1 P ∧ P (w.alloc (.cells G 49)) := by
 have F0 : Below w.heap.size w (w.alloc (.cells G 49)) ∧ Bk (w.alloc (.cells G 49)) w.heap.size 49 (t.cells ++ [Value.slice A n c]).toArray := ⟨bt_new w _, by rw [← hG]; exact Bk.new w 49 G⟩
 refine ⟨fun X => Below w.heap.size w X ∧ Bk X w.heap.size 49 (t.cells ++ [Value.slice A n c]).toArray, ⟨keep_and (keep_below w) (keep_bk _ _ _), fun X h => h.1, fun X h => g_range h.2, fun X h => g_slice ht h.2, fun X h => bkRangeT h.2, fun X g cs h hg => ⟨below_sets (by omega) h.1 _ _, Bk.setsFar (by omega) _ _ h.2⟩, fun X h => by have := h.2.lt; omega, by rw [g_len t ht, info49T]⟩, F0⟩
end Go.Proofs.YtmagppkclnebjaaGreatDoor
