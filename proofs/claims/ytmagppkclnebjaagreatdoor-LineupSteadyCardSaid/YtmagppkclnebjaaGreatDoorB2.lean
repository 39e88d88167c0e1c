/- lineup.line; strings.Builder.WriteString; the document's examples: teams and calls. -/
import Derived.Test.YtmagppkclnebjaaGreatDoorQa
import Derived.Test.YtmagppkclnebjaaGreatDoorQs
set_option linter.unusedVariables false
set_option linter.unusedSimpArgs false
set_option linter.unusedSimpArgs false
namespace Go.Proofs.YtmagppkclnebjaaGreatDoor
open Go.RowKit
open L

def lineS (ws : List Str) : Str := (⟨(Go.Lib.join (ws.map (·.data.toList)) [32]).toArray⟩ : Str) ++ ⟨#[10]⟩
theorem line_any (ws : List Str) (bk o c : Nat) (w : World) (hcells : ∀ (j : Nat) x, ws[j]? = some x → w.cell? ⟨bk, o + j, none⟩ = some (.string x)) (hbk : bk < w.heap.size) (hN : ws.length ≤ 100) (hcap : ws.length ≤ c) (hlen : (Go.Lib.join (ws.map (·.data.toList)) [32]).length ≤ 100000) :
 Calls Tryz.prog 74 #[.slice (some ⟨bk, o, none⟩) ws.length c] w fun x w' => x = .returned (.string (lineS ws)) ∧ Below w.heap.size w w' := by
 have hj := Tryz.strings_Join bk o c ws ⟨#[32]⟩ w hcells hbk (by omega) hcap (by simpa using (by omega : (Go.Lib.join (ws.map (·.data.toList)) [32]).length ≤ 140737488355328))
 have Hj := Lib.hid hj
 have hq : ¬ 9223372036854775807 < (Go.Lib.join (ws.map (·.data.toList)) [32]).length + 1 := by omega
 clear hj hcells
 go_enter Tryz.func74, Tryz.ntmps74
 go_wp2_with (go_at_call 124; refine Hj.out.mono ?_; rintro e w1 ⟨rfl, hb1⟩)
 go_ret
 exact ⟨ret_str (by unfold lineS; rfl), hb1⟩
theorem writeString_any (B b : Nat) (bs : List Value) (s : ByteArray) (w : World) (h : Go.Lib.IsBuilder 134 5 B b bs w) (hlen : bs.length + s.size ≤ 140737488355328) (hBw : B ≤ w.heap.size) :
 Calls Tryz.prog 72 #[.pointer (some ⟨b, 0, none⟩), .string s] w fun e w' => e = .returned (.tuple #[.int .i64 s.size, .nilIface]) ∧ (Go.Lib.BuilderAt 134 5 B b (.pointer (some ⟨b, 0, none⟩)) (bs ++ Go.Lib.strCells s) w' ∧ Below B w w') :=
 Any.Builder_WriteString { Tryz.lays156 with } Tryz.Builder_Extra_156 B b bs s w h hlen hBw

def bs2 (a b : UInt8) : Str := ⟨#[a, b]⟩
def exPos : List Int := [2, 3, 4, 5, 6, 7, 8, 9, 1]
def exT : Tms := ⟨⟨[bs2 97 49, bs2 97 50, bs2 97 51, bs2 97 52, bs2 97 53, bs2 97 54, bs2 97 55, bs2 97 56, bs2 97 57], exPos⟩, ⟨[bs2 98 49, bs2 98 50, bs2 98 51, bs2 98 52, bs2 98 53, bs2 98 54, bs2 98 55, bs2 98 56, bs2 98 57], exPos⟩⟩
def exL : List Chg := [⟨1, 2, 1, bs2 99 49, 9⟩, ⟨1, 2, 8, bs2 98 56, 2⟩, ⟨1, 4, 9, bs2 99 57, 1⟩]
theorem exT_ok : exT.ok := ⟨⟨rfl, rfl⟩, ⟨rfl, rfl⟩⟩

set_option maxHeartbeats 2000000 in
theorem calls_any (w : World) : Calls Tryz.prog 63 #[] w fun x w' => x = .returned (.slice (some ⟨w.heap.size, 0, none⟩) 3 3) ∧ RdC w' (some ⟨w.heap.size, 0, none⟩) exL ∧ Below w.heap.size w w' := by
 go_enter Tryz.func63, Tryz.ntmps63
 go_wp2
 go_ret
 refine ⟨rfl, fun k hk => ⟨w.heap.size, 0, rfl, fun j hj => ?_⟩, bt_new w _⟩
 rw [(Bk.new w 142 _).cell]
 have hk3 : k = 0 ∨ k = 1 ∨ k = 2 := by simp [exL] at hk; omega
 have hj5 : j = 0 ∨ j = 1 ∨ j = 2 ∨ j = 3 ∨ j = 4 := by omega
 rcases hk3 with rfl | rfl | rfl <;> rcases hj5 with rfl | rfl | rfl | rfl | rfl <;> rfl

set_option maxHeartbeats 4000000 in
set_option maxRecDepth 100000 in
theorem teams_any (w : World) : Calls Tryz.prog 62 #[] w fun x w' => x = .returned (.agg exT.cells.toArray) ∧ Below w.heap.size w w' := by
 have hn1 : Hid (∀ W : World, Bk (W.alloc (.cells ((exT.l0.b ++ exT.l1.b).map Value.string).toArray 184)) W.heap.size 184 ((exT.l0.b ++ exT.l1.b).map Value.string).toArray) := fun W => Bk.new W 184 _
 go_enter Tryz.func62, Tryz.ntmps62
 go_upto_region 1 with fail
 obtain ⟨W0, hW0⟩ : ∃ W0, W0 = w.alloc (.cells #[.string { data := #[] }, .string { data := #[] }, .string { data := #[] }, .string { data := #[] }, .string { data := #[] }, .string { data := #[] }, .string { data := #[] }, .string { data := #[] }, .string { data := #[] }, .int .i64 0, .int .i64 0, .int .i64 0, .int .i64 0, .int .i64 0, .int .i64 0, .int .i64 0, .int .i64 0, .int .i64 0, .string { data := #[] }, .string { data := #[] }, .string { data := #[] }, .string { data := #[] }, .string { data := #[] }, .string { data := #[] }, .string { data := #[] }, .string { data := #[] }, .string { data := #[] }, .int .i64 0, .int .i64 0, .int .i64 0, .int .i64 0, .int .i64 0, .int .i64 0, .int .i64 0, .int .i64 0, .int .i64 0] 54) := ⟨_, rfl⟩
 have F0 : Hid (Below w.heap.size w W0 ∧ Bk W0 w.heap.size 54 #[.string { data := #[] }, .string { data := #[] }, .string { data := #[] }, .string { data := #[] }, .string { data := #[] }, .string { data := #[] }, .string { data := #[] }, .string { data := #[] }, .string { data := #[] }, .int .i64 0, .int .i64 0, .int .i64 0, .int .i64 0, .int .i64 0, .int .i64 0, .int .i64 0, .int .i64 0, .int .i64 0, .string { data := #[] }, .string { data := #[] }, .string { data := #[] }, .string { data := #[] }, .string { data := #[] }, .string { data := #[] }, .string { data := #[] }, .string { data := #[] }, .string { data := #[] }, .int .i64 0, .int .i64 0, .int .i64 0, .int .i64 0, .int .i64 0, .int .i64 0, .int .i64 0, .int .i64 0, .int .i64 0]) := by rw [hW0]; exact ⟨bt_new w _, Bk.new w 54 _⟩
 rw [← hW0]
 clear hW0
 go_upto_region 2 with fail
 obtain ⟨W1, hW1⟩ : ∃ W1, W1 = W0.alloc (.cells #[Value.string { data := #[97, 49] }, Value.string { data := #[97, 50] }, Value.string { data := #[97, 51] }, Value.string { data := #[97, 52] }, Value.string { data := #[97, 53] }, Value.string { data := #[97, 54] }, Value.string { data := #[97, 55] }, Value.string { data := #[97, 56] }, Value.string { data := #[97, 57] }, Value.string { data := #[98, 49] }, Value.string { data := #[98, 50] }, Value.string { data := #[98, 51] }, Value.string { data := #[98, 52] }, Value.string { data := #[98, 53] }, Value.string { data := #[98, 54] }, Value.string { data := #[98, 55] }, Value.string { data := #[98, 56] }, Value.string { data := #[98, 57] }] 184) := ⟨_, rfl⟩
 have F1 : Hid (Below w.heap.size w W1 ∧ Bk W1 w.heap.size 54 #[.string { data := #[] }, .string { data := #[] }, .string { data := #[] }, .string { data := #[] }, .string { data := #[] }, .string { data := #[] }, .string { data := #[] }, .string { data := #[] }, .string { data := #[] }, .int .i64 0, .int .i64 0, .int .i64 0, .int .i64 0, .int .i64 0, .int .i64 0, .int .i64 0, .int .i64 0, .int .i64 0, .string { data := #[] }, .string { data := #[] }, .string { data := #[] }, .string { data := #[] }, .string { data := #[] }, .string { data := #[] }, .string { data := #[] }, .string { data := #[] }, .string { data := #[] }, .int .i64 0, .int .i64 0, .int .i64 0, .int .i64 0, .int .i64 0, .int .i64 0, .int .i64 0, .int .i64 0, .int .i64 0] ∧ Bk W1 W0.heap.size 184 ((exT.l0.b ++ exT.l1.b).map Value.string).toArray) := by rw [hW1]; exact ⟨bt_alloc F0.out.1 _, F0.out.2.alloc _, Bk.new W0 184 _⟩
 rw [← hW1]
 clear hW1
 go_upto_region 3 with fail
 obtain ⟨W2, hW2⟩ : ∃ W2, W2 = W1.alloc (.cells #[Value.int .i64 2, Value.int .i64 3, Value.int .i64 4, Value.int .i64 5, Value.int .i64 6, Value.int .i64 7, Value.int .i64 8, Value.int .i64 9, Value.int .i64 1] 23) := ⟨_, rfl⟩
 have F2 : Hid (Below w.heap.size w W2 ∧ Bk W2 w.heap.size 54 #[.string { data := #[] }, .string { data := #[] }, .string { data := #[] }, .string { data := #[] }, .string { data := #[] }, .string { data := #[] }, .string { data := #[] }, .string { data := #[] }, .string { data := #[] }, .int .i64 0, .int .i64 0, .int .i64 0, .int .i64 0, .int .i64 0, .int .i64 0, .int .i64 0, .int .i64 0, .int .i64 0, .string { data := #[] }, .string { data := #[] }, .string { data := #[] }, .string { data := #[] }, .string { data := #[] }, .string { data := #[] }, .string { data := #[] }, .string { data := #[] }, .string { data := #[] }, .int .i64 0, .int .i64 0, .int .i64 0, .int .i64 0, .int .i64 0, .int .i64 0, .int .i64 0, .int .i64 0, .int .i64 0] ∧ Bk W2 W0.heap.size 184 ((exT.l0.b ++ exT.l1.b).map Value.string).toArray ∧ Bk W2 W1.heap.size 23 (exPos.map (Value.int .i64)).toArray) := by rw [hW2]; exact ⟨bt_alloc F1.out.1 _, F1.out.2.1.alloc _, F1.out.2.2.alloc _, Bk.new W1 23 _⟩
 rw [← hW2]
 clear hW2 F0 F1
 have hl0 : Hid (∀ j, j < [Value.string { data := #[97, 49] }, Value.string { data := #[97, 50] }, Value.string { data := #[97, 51] }, Value.string { data := #[97, 52] }, Value.string { data := #[97, 53] }, Value.string { data := #[97, 54] }, Value.string { data := #[97, 55] }, Value.string { data := #[97, 56] }, Value.string { data := #[97, 57] }].length → W2.cell? ⟨W0.heap.size, 0 + j, none⟩ = [Value.string { data := #[97, 49] }, Value.string { data := #[97, 50] }, Value.string { data := #[97, 51] }, Value.string { data := #[97, 52] }, Value.string { data := #[97, 53] }, Value.string { data := #[97, 54] }, Value.string { data := #[97, 55] }, Value.string { data := #[97, 56] }, Value.string { data := #[97, 57] }][j]?) := by
  intro j hj
  rw [F2.out.2.2.1.cell, Nat.zero_add]
  have hj9 : j = 0 ∨ j = 1 ∨ j = 2 ∨ j = 3 ∨ j = 4 ∨ j = 5 ∨ j = 6 ∨ j = 7 ∨ j = 8 := by simp at hj; omega
  rcases hj9 with rfl | rfl | rfl | rfl | rfl | rfl | rfl | rfl | rfl <;> rfl
 have hl1 : Hid (∀ j, j < [Value.string { data := #[98, 49] }, Value.string { data := #[98, 50] }, Value.string { data := #[98, 51] }, Value.string { data := #[98, 52] }, Value.string { data := #[98, 53] }, Value.string { data := #[98, 54] }, Value.string { data := #[98, 55] }, Value.string { data := #[98, 56] }, Value.string { data := #[98, 57] }].length → W2.cell? ⟨W0.heap.size, 9 + j, none⟩ = [Value.string { data := #[98, 49] }, Value.string { data := #[98, 50] }, Value.string { data := #[98, 51] }, Value.string { data := #[98, 52] }, Value.string { data := #[98, 53] }, Value.string { data := #[98, 54] }, Value.string { data := #[98, 55] }, Value.string { data := #[98, 56] }, Value.string { data := #[98, 57] }][j]?) := by
  intro j hj
  rw [F2.out.2.2.1.cell]
  have hj9 : j = 0 ∨ j = 1 ∨ j = 2 ∨ j = 3 ∨ j = 4 ∨ j = 5 ∨ j = 6 ∨ j = 7 ∨ j = 8 := by simp at hj; omega
  rcases hj9 with rfl | rfl | rfl | rfl | rfl | rfl | rfl | rfl | rfl <;> rfl
 have hl2 : Hid (∀ j, j < [Value.int .i64 2, Value.int .i64 3, Value.int .i64 4, Value.int .i64 5, Value.int .i64 6, Value.int .i64 7, Value.int .i64 8, Value.int .i64 9, Value.int .i64 1].length → W2.cell? ⟨W1.heap.size, 0 + j, none⟩ = [Value.int .i64 2, Value.int .i64 3, Value.int .i64 4, Value.int .i64 5, Value.int .i64 6, Value.int .i64 7, Value.int .i64 8, Value.int .i64 9, Value.int .i64 1][j]?) := by
  intro j hj
  rw [F2.out.2.2.2.cell, Nat.zero_add]
  have hj9 : j = 0 ∨ j = 1 ∨ j = 2 ∨ j = 3 ∨ j = 4 ∨ j = 5 ∨ j = 6 ∨ j = 7 ∨ j = 8 := by simp at hj; omega
  rcases hj9 with rfl | rfl | rfl | rfl | rfl | rfl | rfl | rfl | rfl <;> rfl
 have hi22 : Hid ((Tryz.prog.info? 22).map (·.size) = some [Value.string { data := #[97, 49] }, Value.string { data := #[97, 50] }, Value.string { data := #[97, 51] }, Value.string { data := #[97, 52] }, Value.string { data := #[97, 53] }, Value.string { data := #[97, 54] }, Value.string { data := #[97, 55] }, Value.string { data := #[97, 56] }, Value.string { data := #[97, 57] }].length) := by exact (by kernel_rfl : (Tryz.prog.info? 22).map (·.size) = some 9)
 have hi22' : Hid ((Tryz.prog.info? 22).map (·.size) = some [Value.string { data := #[98, 49] }, Value.string { data := #[98, 50] }, Value.string { data := #[98, 51] }, Value.string { data := #[98, 52] }, Value.string { data := #[98, 53] }, Value.string { data := #[98, 54] }, Value.string { data := #[98, 55] }, Value.string { data := #[98, 56] }, Value.string { data := #[98, 57] }].length) := by exact (by kernel_rfl : (Tryz.prog.info? 22).map (·.size) = some 9)
 have hi23 : Hid ((Tryz.prog.info? 23).map (·.size) = some [Value.int .i64 2, Value.int .i64 3, Value.int .i64 4, Value.int .i64 5, Value.int .i64 6, Value.int .i64 7, Value.int .i64 8, Value.int .i64 9, Value.int .i64 1].length) := by exact (by kernel_rfl : (Tryz.prog.info? 23).map (·.size) = some 9)
 have hst : Hid (W2.there w.heap.size 0 exT.cells.toArray.size) := F2.out.2.1.there _ (by decide)
 have hi54 : Hid ((Tryz.prog.info? 54).map (·.size) = some exT.cells.toArray.size) := info54s _ (by decide)
 have hone : Hid (exT.cells.toArray.all (·.oneCell') = true) := Tms.oneCell exT
 go_wp2_with (first
  | (refine wpList_load_cells rfl 22 _ rfl W0.heap.size 0 rfl _ hl0.out _ Tryz.underlying22 rfl hi22.out ?_)
  | (refine wpList_load_cells rfl 22 _ rfl W0.heap.size 9 rfl _ hl1.out _ Tryz.underlying22 rfl hi22'.out ?_)
  | (refine wpList_load_cells rfl 23 _ rfl W1.heap.size 0 rfl _ hl2.out _ Tryz.underlying23 rfl hi23.out ?_)
  | (refine wpList_store_mid rfl 54 _ _ rfl w.heap.size 0 exT.cells.toArray rfl rfl hst.out hi54.out hone.out ?_))
 refine bodyPost_ret (results_cell_row rfl _ _ w.heap.size 54 exT.cells.toArray (0, 0) _ rfl (F2.out.2.1.fill exT.cells.toArray (by decide)) Tryz.underlying54 rfl hi54.out) rfl ?_
 exact ⟨rfl, below_sets (Nat.le_refl _) F2.out.1 _ 0⟩
end Go.Proofs.YtmagppkclnebjaaGreatDoor
