/- lineup.Print: the text of teams and changes. -/
import Derived.Test.YtmagppkclnebjaaGreatDoorB2
import Derived.Test.YtmagppkclnebjaaGreatDoorA13
import Derived.Test.YtmagppkclnebjaaGreatDoorQ0
import Derived.Shelf.Strings.BuilderK
set_option linter.unusedVariables false
set_option linter.unusedSimpArgs false
set_option linter.unusedSimpArgs false
namespace Go.Proofs.YtmagppkclnebjaaGreatDoor
open Go.RowKit
open L

def L.slotWords (t : Tms) (side slot : Int) : List Str := [decS side, decS slot, (t.get side).bat slot, decS ((t.get side).at_ slot)]
def L.chgWords (d : Chg) : List Str := [bs2 97 116, decS d.play, decS d.side, decS d.slot, d.name, decS d.pos]
def L.sideT (t : Tms) (side : Int) (j : Nat) : List UInt8 := (List.range j).flatMap fun (i : Nat) => (lineS (slotWords t side ((i : Int) + 1))).data.toList
def L.chgT (l : List Chg) : List UInt8 := l.flatMap fun d => (lineS (chgWords d)).data.toList
def L.printL (t : Tms) (l : List Chg) : List UInt8 := sideT t 0 9 ++ sideT t 1 9 ++ chgT l
def L.printR (t : Tms) (l : List Chg) : Str := if checkChanges t l ≠ 0 then .empty else ⟨(printL t l).toArray⟩
/-- the numbers that Print asks Itoa for come back as their numerals -/
def ItoaOk (w : World) (l : List Chg) : Prop := ∀ W, Below w.heap.size w W → ∀ i : Int, 0 ≤ i → (i < 100 ∨ ∃ d ∈ l, i = d.play) → Calls Tryz.prog 71 #[.int .i64 i] W fun x w' => x = .returned (.string (decS i)) ∧ Below W.heap.size W w'

theorem writeStringK (B b : Nat) (bs : List Value) (s : ByteArray) (w : World) (h : Go.Lib.IsBuilderF 134 5 B b bs w) (hlen : bs.length + s.size ≤ 140737488355328) (hBw : B ≤ w.heap.size) :
 Calls Tryz.prog 72 #[.pointer (some ⟨b, 0, none⟩), .string s] w fun e w' => e = .returned (.tuple #[.int .i64 s.size, .nilIface]) ∧ (Go.Lib.BuilderAtF 134 5 B b (.pointer (some ⟨b, 0, none⟩)) (bs ++ Go.Lib.strCells s) w' ∧ Below B w w' ∧ Go.Lib.OthersKept 5 (some b) w w') :=
 Any.Builder_WriteString_k { Tryz.lays156 with } Tryz.Builder_Extra_156 B b bs s w h hlen hBw
theorem builderString (B b : Nat) (l : List UInt8) (w : World) (h : Go.Lib.IsBuilderF 134 5 B b (Go.Lib.byteCells l) w) (hBw : B ≤ w.heap.size) :
 Calls Tryz.prog 75 #[.pointer (some ⟨b, 0, none⟩)] w fun e w' => e = .returned (.string ⟨l.toArray⟩) ∧ Below B w w' :=
 (Any.Builder_String_any_k Tryz.lays169 Tryz.Builder_Extra_169 B b l w h hBw).mono fun _ _ ⟨h1, _, h2, _⟩ => ⟨h1, h2⟩
theorem bk_kept {w w' : World} {g b : Nat} {cs : Array Value} (h : Bk w g 142 cs) (hk : Go.Lib.OthersKept 5 (some b) w w') (hg : g ≠ b) : Bk w' g 142 cs :=
 hk g _ h (by intro e; exact hg (Option.some.inj e)) (by intro c fz e; injection e with _ e2; cases e2)
theorem builder_below {T e : TypeId} {B b : Nat} {p : Value} {bs : List Value} {W W' : World} (h : Go.Lib.BuilderAtF T e B b p bs W) (hb : Below W.heap.size W W') : Go.Lib.BuilderAtF T e B b p bs W' := by
 have hlt := h.lt
 obtain ⟨hB, v, hv, hown, hne⟩ := h
 exact ⟨hB, v, (hb.block b hlt).trans hv, hown.kept (row := none) ⟨hb.os, hb.tape, hb.output, hb.size, fun k hk _ => hb.block k hk⟩ (Classical.em _), hne⟩
theorem isBuilder_below {T e : TypeId} {B b : Nat} {bs : List Value} {W W' : World} (h : Go.Lib.IsBuilderF T e B b bs W) (hb : Below W.heap.size W W') : Go.Lib.IsBuilderF T e B b bs W' :=
 h.elim (fun x => .inl (builder_below x hb)) (fun x => .inr (builder_below x hb))
theorem builder_lt {T e : TypeId} {B b : Nat} {bs : List Value} {W : World} (h : Go.Lib.IsBuilderF T e B b bs W) : b < W.heap.size := h.elim (fun x => x.lt) (fun x => x.lt)
theorem dec_len (n : Int) (h : n ≤ 999) : (Go.Lib.decDigits n.toNat).length ≤ 3 := by
 by_cases h1 : n.toNat < 10
 ·
  rw [Go.Lib.decDigits_one h1]; simp
 ·
  by_cases h2 : n.toNat < 100
  ·
   rw [Go.Lib.decDigits_two h1 h2]; simp
  ·
   rw [Go.Lib.decDigits, dif_neg h1]
   rw [List.length_append]
   have : (Go.Lib.decDigits (n.toNat / 10)).length ≤ 2 := by
    have h3 : n.toNat / 10 < 100 := by omega
    rw [Go.Lib.decDigits_two (by omega) h3]; simp
   simp; omega
theorem join4 (a b c d : List UInt8) : (Go.Lib.join [a, b, c, d] [32]).length = a.length + b.length + c.length + d.length + 3 := by
 rw [Go.Lib.join_length]; simp [Go.Lib.lens]; omega
theorem join6 (a b c d e f : List UInt8) : (Go.Lib.join [a, b, c, d, e, f] [32]).length = a.length + b.length + c.length + d.length + e.length + f.length + 5 := by
 rw [Go.Lib.join_length]; simp [Go.Lib.lens]; omega
theorem lineS_size (ws : List Str) : (lineS ws).size = (Go.Lib.join (ws.map (·.data.toList)) [32]).length + 1 := by
 unfold lineS
 rw [ByteArray.size_append]
 rfl
theorem lineS_data (ws : List Str) : (lineS ws).data.toList = Go.Lib.join (ws.map (·.data.toList)) [32] ++ [10] := by
 unfold lineS
 rw [ByteArray.data_append]
 simp
theorem slotJoin (t : Tms) (side slot : Int) (h1 : side ≤ 999) (h2 : slot ≤ 999) (h3 : (t.get side).at_ slot ≤ 999) (h4 : ((t.get side).bat slot).size ≤ 24) : (Go.Lib.join ((slotWords t side slot).map (·.data.toList)) [32]).length ≤ 100 := by
 have e1 := dec_len side h1; have e2 := dec_len slot h2; have e3 := dec_len _ h3
 have e4 : ((t.get side).bat slot).data.toList.length ≤ 24 := by rw [Array.length_toList]; exact h4
 simp only [slotWords, List.map_cons, List.map_nil]
 rw [join4]
 simp only [decS, List.toList_toArray]
 omega
theorem chgJoin (d : Chg) (h : checkC d = 0) : (Go.Lib.join ((chgWords d).map (·.data.toList)) [32]).length ≤ 100 := by
 obtain ⟨h0, h1, h2, h3, h4⟩ := checkC_zero h
 have e1 := dec_len d.side (by omega); have e2 := dec_len d.slot (by omega); have e3 := dec_len d.play (by omega); have e5 := dec_len d.pos (by omega)
 have e4 : d.name.data.toList.length ≤ 24 := by rw [Array.length_toList]; exact isName_size h4
 simp only [chgWords, List.map_cons, List.map_nil]
 rw [join6]
 simp only [decS, bs2, List.toList_toArray, List.length_cons, List.length_nil]
 omega
theorem sideT_succ (t : Tms) (side : Int) (j : Nat) : sideT t side (j + 1) = sideT t side j ++ (lineS (slotWords t side ((j : Int) + 1))).data.toList := by
 simp [sideT, List.range_succ, List.flatMap_append]
theorem chgT_take (l : List Chg) (k : Nat) (hk : k < l.length) : chgT (l.take (k + 1)) = chgT (l.take k) ++ (lineS (chgWords (l.getD k ⟨0, 0, 0, .empty, 0⟩))).data.toList := by
 rw [List.take_succ_eq_append_getElem hk]
 unfold chgT
 rw [List.flatMap_append]
 simp [List.getD, List.getElem?_eq_getElem hk]
/-- the facts of teams that Print needs -/
structure Fit (t : Tms) : Prop where
 name : ∀ side slot : Int, (side = 0 ∨ side = 1) → 1 ≤ slot → slot ≤ 9 → ((t.get side).bat slot).size ≤ 24
 pos : ∀ side slot : Int, (side = 0 ∨ side = 1) → 1 ≤ slot → slot ≤ 9 → 1 ≤ (t.get side).at_ slot ∧ (t.get side).at_ slot ≤ 9
theorem fit_of (t : Tms) (ht : t.ok) (h : checkTeams t = 0) : Fit t := by
 have hg := checkTeams_zero h
 have key : ∀ X : LU, X.ok → X.good → ∀ slot : Int, 1 ≤ slot → slot ≤ 9 → (X.bat slot).size ≤ 24 ∧ 1 ≤ X.at_ slot ∧ X.at_ slot ≤ 9 := fun X hX hG slot h1 h9 => by
  have hk : (slot - 1).toNat < 9 := by omega
  have e1 : X.bat slot ∈ X.b := by
   unfold LU.bat
   rw [List.getD_eq_getElem?_getD, List.getElem?_eq_getElem (by rw [hX.1]; exact hk)]
   simp
  have e2 : X.at_ slot ∈ X.p := by
   unfold LU.at_
   rw [List.getD_eq_getElem?_getD, List.getElem?_eq_getElem (by rw [hX.2]; exact hk)]
   simp
  exact ⟨isName_size (hG.names _ e1), hG.range _ e2⟩
 refine ⟨fun side slot hs h1 h9 => ?_, fun side slot hs h1 h9 => ?_⟩
 ·
  rcases hs with rfl | rfl
  ·
   exact (key t.l0 ht.1 hg.g0 slot h1 h9).1
  ·
   exact (key t.l1 ht.2 hg.g1 slot h1 h9).1
 ·
  rcases hs with rfl | rfl
  ·
   exact (key t.l0 ht.1 hg.g0 slot h1 h9).2
  ·
   exact (key t.l1 ht.2 hg.g1 slot h1 h9).2

theorem line_n (ws : List Str) (n : Nat) (hn : ws.length = n) (bk c : Nat) (w : World) (hcells : ∀ (j : Nat) x, ws[j]? = some x → w.cell? ⟨bk, 0 + j, none⟩ = some (.string x)) (hbk : bk < w.heap.size) (hN : n ≤ 100) (hcap : n ≤ c) (hlen : (Go.Lib.join (ws.map (·.data.toList)) [32]).length ≤ 100000) :
 Calls Tryz.prog 74 #[.slice (some ⟨bk, 0, none⟩) n c] w fun x w' => x = .returned (.string (lineS ws)) ∧ Below w.heap.size w w' := by
 subst hn
 exact line_any ws bk 0 c w hcells hbk hN hcap hlen
theorem cells_new (W : World) (ty : TypeId) (ws : List Str) : ∀ (j : Nat) x, ws[j]? = some x → (W.alloc (.cells (ws.map Value.string).toArray ty)).cell? ⟨W.heap.size, 0 + j, none⟩ = some (.string x) := fun j x hx => by
 rw [(Bk.new W ty _).cell, List.getElem?_toArray, Nat.zero_add, List.getElem?_map, hx]; rfl
def txt (t : Tms) (k : Nat) : List UInt8 := (List.range k).flatMap fun (i : Nat) => sideT t i 9
theorem txt_succ (t : Tms) (k : Nat) : txt t (k + 1) = txt t k ++ sideT t k 9 := by simp [txt, List.range_succ, List.flatMap_append]
theorem txt_two (t : Tms) : txt t 2 = sideT t 0 9 ++ sideT t 1 9 := by rw [txt_succ, txt_succ]; rfl
theorem cells5P {W : World} {g : Nat} {a b c e : Int} {s : Str} (h : Bk W g 142 #[.int .i64 a, .int .i64 b, .int .i64 c, .string s, .int .i64 e]) : W.cell? ⟨g, 0, none⟩ = some (.int .i64 a) ∧ W.cell? ⟨g, 1, none⟩ = some (.int .i64 b) ∧ W.cell? ⟨g, 2, none⟩ = some (.int .i64 c) ∧ W.cell? ⟨g, 3, none⟩ = some (.string s) ∧ W.cell? ⟨g, 4, none⟩ = some (.int .i64 e) := by
 refine ⟨?_, ?_, ?_, ?_, ?_⟩ <;> (rw [h.cell]; rfl)
theorem heap_alloc_lt (W : World) (o : Obj) : W.heap.size < (W.alloc o).heap.size := by simp
theorem bk_far {w w' : World} {g b : Nat} {ty : TypeId} {cs : Array Value} (h : Bk w g ty cs) (hb : Below b w w') (hg : g < b) : Bk w' g ty cs := (hb.block g hg).trans h

set_option maxHeartbeats 8000000 in
set_option maxRecDepth 100000 in
theorem print_gen (t : Tms) (ht : t.ok) (T : Array Value) (hT : T = t.cells.toArray) (l : List Chg) (A : Option Addr) (n c : Nat) (hn : l.length = n) (w : World) (hl : RdC w A l) (hit : checkChanges t l = 0 → ItoaOk w l) :
 Calls Tryz.prog 22 #[.agg T, .slice A n c] w fun x w' => x = .returned (.tuple #[.string (printR t l), .int .i64 (checkChanges t l)]) ∧ Below w.heap.size w w' := by
 have F : Hid (Below w.heap.size w (w.alloc (.cells T 54)) ∧ Bk (w.alloc (.cells T 54)) w.heap.size 54 t.cells.toArray) := by
  refine ⟨bt_new w _, by rw [← hT]; exact Bk.new w 54 T⟩
 have Ht := Lib.hid ht; have Hn := Lib.hid hn; have Hl := Lib.hid hl; have Hit := Lib.hid hit
 have Hi := Lib.hid (info54s t.cells.toArray.size (Tms.size36 t ht))
 clear ht hn hl hT hit
 have hcc : ∀ W, Below w.heap.size w W → Calls Tryz.prog 61 #[.agg t.cells.toArray, .slice A n c] W fun x w' => x = .returned (.int .i64 (checkChanges t l)) ∧ Below W.heap.size W w' := fun W hW =>
  checkChanges_pre t Ht.out _ rfl l A n c Hn.out W (Hl.out.below hW)
 have Hcc := Lib.hid hcc; clear hcc
 go_enter Tryz.func22, Tryz.ntmps22
 go_upto_region 1 with fail
 generalize (w.alloc (.cells T 54)) = W0 at F ⊢
 go_upto_region 2 with (first
  | (refine wpList_load_row rfl 54 _ rfl w.heap.size rfl 54 t.cells.toArray (0, 0) _ F.out.2 Tryz.underlying54 rfl Hi.out ?_)
  | (go_at_call 61; refine (Hcc.out _ F.out.1).mono ?_; rintro e w1 ⟨rfl, hb1⟩))
 have F1 : Hid (Below w.heap.size w w1 ∧ Bk w1 w.heap.size 54 t.cells.toArray) :=
  ⟨bt_trans F.out.1 hb1, F.out.2.below hb1 F.out.2.lt⟩
 clear F hb1
 by_cases hE : checkChanges t l = 0
 ·
  have hz : (checkChanges t l != 0) = false := by simpa using hE
  have HE := Lib.hid hE
  have Hit := Lib.hid (Hit.out hE)
  have Hck := Lib.hid (cc_parts hE).2.2.1
  have Hfit := Lib.hid (fit_of t Ht.out (cc_parts hE).1)
  have h64 := (cc_parts hE).2.1
  have hn1 : n ≤ 64 := by have := Hn.out; omega
  clear hE h64
  have F2 : Hid (Below w.heap.size w (w1.alloc (.cells #[.pointer none, .slice none 0 0] 134)) ∧ Bk (w1.alloc (.cells #[.pointer none, .slice none 0 0] 134)) w.heap.size 54 t.cells.toArray ∧ Go.Lib.IsBuilderF 134 5 w1.heap.size w1.heap.size [] (w1.alloc (.cells #[.pointer none, .slice none 0 0] 134)) ∧ w.heap.size < w1.heap.size) :=
   ⟨bt_alloc F1.out.1 _, F1.out.2.alloc _, Go.Lib.IsBuilderF.of (Go.Lib.fresh_isBuilder 134 5 w1), F1.out.2.lt⟩
  clear F1
  go_upto_region 8 with fail
  generalize (w1.alloc (.cells #[.pointer none, .slice none 0 0] 134)) = W2 at F2 ⊢
  generalize w1.heap.size = bb at F2 ⊢
  have Hbb := Lib.hid F2.out.2.2.2
  go_loopw [23] (fun i wr => ∃ k : Nat, k ≤ 2 ∧ i = .int .i64 k ∧ Below w.heap.size w wr ∧ Bk wr w.heap.size 54 t.cells.toArray ∧ Go.Lib.IsBuilderF 134 5 bb bb (Go.Lib.byteCells (txt t k)) wr ∧ (txt t k).length ≤ 2000 * k) (fun i _ => 2 - (intOf i).toNat)
  case atStart => exact ⟨0, by omega, rfl, F2.out.1, F2.out.2.1, F2.out.2.2.1, by simp [txt]⟩
  case round =>
   obtain ⟨k, hk, rfl, hb, hbk, hib, hln⟩ := hrel
   clear F2
   have G := Lib.hid (show Below w.heap.size w wr ∧ Bk wr w.heap.size 54 t.cells.toArray ∧ Go.Lib.IsBuilderF 134 5 bb bb (Go.Lib.byteCells (txt t k)) wr from ⟨hb, hbk, hib⟩)
   clear hb hbk hib
   by_cases hk2 : k < 2
   ·
    have hs : (k : Int) = 0 ∨ (k : Int) = 1 := by omega
    have Hs := Lib.hid hs; clear hs
    have hdk : decide ((k : Int) < 2) = true := decide_eq_true (by omega)
    go_upto_region 11 with fail
    clear hdk
    go_loopw [11] (fun i wr => ∃ j : Nat, j ≤ 9 ∧ i = .int .i64 ((j : Int) + 1) ∧ Below w.heap.size w wr ∧ Bk wr w.heap.size 54 t.cells.toArray ∧ Go.Lib.IsBuilderF 134 5 bb bb (Go.Lib.byteCells (txt t k ++ sideT t k j)) wr ∧ (sideT t k j).length ≤ 101 * j) (fun i _ => 10 - (intOf i).toNat)
    case atStart => exact ⟨0, by omega, rfl, G.out.1, G.out.2.1, by simpa [sideT] using G.out.2.2, by simp [sideT]⟩
    case round =>
     obtain ⟨j, hj, rfl, hb, hbk, hib, hlj⟩ := hrel
     clear G
     by_cases hj9 : j < 9
     ·
      have hp := Hfit.out.pos k ((j : Int) + 1) Hs.out (by omega) (by omega)
      have hnm := Hfit.out.name k ((j : Int) + 1) Hs.out (by omega) (by omega)
      have hjn := slotJoin t k ((j : Int) + 1) (by omega) (by omega) (by omega) hnm
      go_upto_region 14 with (first
       | (go_at_call 73; refine (player_any t Ht.out w.heap.size k ((j : Int) + 1) Hs.out (by omega) (by omega) _ hbk).mono ?_; rintro e w3 ⟨rfl, nn, rfl⟩))
      have hcur : Below w.heap.size w (wr.drewN nn) := bt_drewN hb nn
      have hbk' : Bk (wr.drewN nn) w.heap.size 54 t.cells.toArray := hbk.drewN nn
      have hib' : Go.Lib.IsBuilderF 134 5 bb bb (Go.Lib.byteCells (txt t k ++ sideT t k j)) (wr.drewN nn) := hib
      have hsc := sideT_succ t k j
      have hlw : (slotWords t k ((j : Int) + 1)).length = 4 := rfl
      have hsw : slotWords t k ((j : Int) + 1) = [decS k, decS ((j : Int) + 1), (t.get k).bat ((j : Int) + 1), decS ((t.get k).at_ ((j : Int) + 1))] := rfl
      have hls := lineS_size (slotWords t k ((j : Int) + 1))
      clear hb hbk hib
      generalize wr.drewN nn = W3 at hcur hbk' hib' ⊢
      generalize (t.get k).bat ((j : Int) + 1) = B at hsw hnm ⊢
      generalize (t.get k).at_ ((j : Int) + 1) = P at hsw hp ⊢
      generalize slotWords t k ((j : Int) + 1) = ws at hsc hlw hsw hls hjn
      have Hsc := Lib.hid hsc; have Hlw := Lib.hid hlw; have Hsw := Lib.hid hsw; have Hib := Lib.hid hib'; have Hbk := Lib.hid hbk'
      clear hsc hlw hsw hib' hbk'
      go_wp2_with fail
      refine (Hit.out _ hcur k (by omega) (.inl (by omega))).mono ?_
      rintro e wi ⟨rfl, hbi⟩
      replace Hib := Lib.hid (isBuilder_below Hib.out hbi); replace Hbk := Lib.hid (Hbk.out.below hbi Hbk.out.lt); replace hcur := bt_trans hcur hbi; clear hbi
      go_wp2_with fail
      refine (Hit.out _ hcur ((j : Int) + 1) (by omega) (.inl (by omega))).mono ?_
      rintro e wi ⟨rfl, hbi⟩
      replace Hib := Lib.hid (isBuilder_below Hib.out hbi); replace Hbk := Lib.hid (Hbk.out.below hbi Hbk.out.lt); replace hcur := bt_trans hcur hbi; clear hbi
      go_wp2_with fail
      refine (Hit.out _ hcur P (by omega) (.inl (by omega))).mono ?_
      rintro e wi ⟨rfl, hbi⟩
      replace Hib := Lib.hid (isBuilder_below Hib.out hbi); replace Hbk := Lib.hid (Hbk.out.below hbi Hbk.out.lt); replace hcur := bt_trans hcur hbi; clear hbi
      go_wp2_with fail
      refine (line_n ws 4 Hlw.out _ 4 _ (by rw [Hsw.out]; exact cells_new _ 9 _) (by exact heap_alloc_lt _ _) (by omega) (by omega) (by omega)).mono ?_
      rintro e wi ⟨rfl, hbi⟩
      replace Hib := Lib.hid (isBuilder_below (isBuilder_below Hib.out (bt_new _ _)) hbi); replace Hbk := Lib.hid ((Hbk.out.alloc _).below hbi (Hbk.out.alloc _).lt); replace hcur := bt_trans (bt_alloc hcur _) hbi; clear hbi
      go_wp2_with fail
      refine (writeStringK bb bb _ (lineS ws) _ Hib.out (by rw [Go.Lib.byteCells_length, List.length_append]; omega) (by have := builder_lt Hib.out; omega)).mono ?_
      rintro e wi ⟨rfl, hbu, hbi, hok⟩
      replace Hbk := Lib.hid (bk_far Hbk.out hbi Hbb.out); replace hcur := hcur.trans (hbi.mono (Nat.le_of_lt Hbb.out)); clear hbi hok Hib
      go_wp2
      go_roundw
      case rel =>
       refine ⟨j + 1, by omega, by go_num, hcur, Hbk.out, .inr ?_, ?_⟩
       ·
        rw [Hsc.out, ← List.append_assoc, Go.Lib.byteCells_append, ← Go.Lib.strCells_eq]
        exact hbu
       ·
        rw [Hsc.out, List.length_append]
        have : (lineS ws).data.toList.length = (lineS ws).size := Array.length_toList
        omega
      case measure => simp [intOf]; omega
     ·
      obtain rfl : j = 9 := by omega
      have Hb := Lib.hid hb; have Hbk := Lib.hid hbk; have Hib := Lib.hid hib; clear hb hbk hib
      have hst := txt_succ t k
      have Hst := Lib.hid hst; clear hst
      go_wp2
      go_roundw
      case rel =>
       refine ⟨k + 1, by omega, by go_num, Hb.out, Hbk.out, by rw [Hst.out]; exact Hib.out, by rw [Hst.out, List.length_append]; omega⟩
      case measure => simp [intOf]; omega
   ·
    obtain rfl : k = 2 := by omega
    have e0 : ((2 : Nat) : Int) = 2 := rfl
    rw [e0]
    clear e0
    rw [txt_two] at G hln
    have P0 : Hid (Below w.heap.size w wr ∧ Go.Lib.IsBuilderF 134 5 bb bb (Go.Lib.byteCells (sideT t 0 9 ++ sideT t 1 9)) wr) := ⟨G.out.1, G.out.2.2⟩
    clear G
    have hl0 : (sideT t 0 9 ++ sideT t 1 9).length ≤ 4000 := by omega
    have hpl : printL t l = (sideT t 0 9 ++ sideT t 1 9) ++ chgT l := rfl
    have Hpl := Lib.hid hpl
    clear hpl hln
    generalize sideT t 0 9 ++ sideT t 1 9 = T2 at P0 hl0 Hpl
    obtain ⟨W3, hW3⟩ : ∃ W3 : World, W3 = wr := ⟨_, rfl⟩
    rw [← hW3] at P0 ⊢
    clear hW3
    go_upto_region 17 with fail
    go_loopw [53] (fun i wr => ∃ k : Nat, k ≤ n ∧ i = .int .i64 k ∧ Below w.heap.size w wr ∧ Go.Lib.IsBuilderF 134 5 bb bb (Go.Lib.byteCells (T2 ++ chgT (l.take k))) wr ∧ (chgT (l.take k)).length ≤ 101 * k) (fun i _ => n - (intOf i).toNat)
    case atStart => exact ⟨0, by omega, rfl, P0.out.1, by simpa [chgT] using P0.out.2, by simp [chgT]⟩
    case round =>
     clear P0
     obtain ⟨k, hk, rfl, hb, hib, hlk⟩ := hrel
     have Hb := Lib.hid hb; have Hib := Lib.hid hib
     clear hb hib
     by_cases hkn : k < n
     ·
      obtain ⟨b, off, rfl, hc⟩ := Hl.out k (by rw [Hn.out]; exact hkn)
      have hb0 : b < w.heap.size := World.block_lt_of_cell? w ⟨b, off + k * 5 + 0, none⟩ (u := .int .i64 (l.getD k ⟨0, 0, 0, .empty, 0⟩).side) (by rw [hc 0 (by omega)]; rfl)
      have hcell : ∀ j, j < 5 → wr.cell? ⟨b, off + k * 5 + j, none⟩ = (l.getD k ⟨0, 0, 0, .empty, 0⟩).val[j]? := fun j hj => by
       rw [Hb.out.cell (p := ⟨b, off + k * 5 + j, none⟩) hb0]; exact hc j hj
      have hct := chgT_take l k (by rw [Hn.out]; exact hkn)
      have hmem : l.getD k ⟨0, 0, 0, .empty, 0⟩ ∈ l := by
       have hkl : k < l.length := by rw [Hn.out]; exact hkn
       simp [List.getD, List.getElem?_eq_getElem hkl]
      generalize hd : l.getD k ⟨0, 0, 0, .empty, 0⟩ = d at hcell hct hmem
      have hjn := chgJoin d (Hck.out d hmem)
      have hcz := checkC_zero (Hck.out d hmem)
      have hls := lineS_size (chgWords d)
      have hlw : (chgWords d).length = 6 := rfl
      obtain ⟨ds, dp, dl, dn, dx⟩ := d
      have hsw : chgWords ⟨ds, dp, dl, dn, dx⟩ = [bs2 97 116, decS dp, decS ds, decS dl, dn, decS dx] := rfl
      generalize chgWords ⟨ds, dp, dl, dn, dx⟩ = ws at hct hjn hls hlw hsw
      have Hct := Lib.hid hct; have Hsw := Lib.hid hsw; have Hlw := Lib.hid hlw; have Hmem := Lib.hid hmem
      obtain ⟨z0, z1, z2, z3, z4⟩ := hcz
      have z0' : 0 ≤ ds ∧ ds ≤ 1 := by have : ds = 0 ∨ ds = 1 := z0; omega
      have z1' : 0 ≤ dp ∧ dp ≤ 256 := z1
      have z2' : 1 ≤ dl ∧ dl ≤ 9 := z2
      have z3' : 1 ≤ dx ∧ dx ≤ 9 := z3
      clear hct hsw hlw hmem hd hc z0 z1 z2 z3 z4
      have c0 : wr.cell? ⟨b, off + k * 5, none⟩ = some (.int .i64 ds) := hcell 0 (by omega)
      have c1 : wr.cell? ⟨b, off + k * 5 + 1, none⟩ = some (.int .i64 dp) := hcell 1 (by omega)
      have c2 : wr.cell? ⟨b, off + k * 5 + 2, none⟩ = some (.int .i64 dl) := hcell 2 (by omega)
      have c3 : wr.cell? ⟨b, off + k * 5 + 3, none⟩ = some (.string dn) := hcell 3 (by omega)
      have c4 : wr.cell? ⟨b, off + k * 5 + 4, none⟩ = some (.int .i64 dx) := hcell 4 (by omega)
      clear hcell
      go_upto_region 19 with fail
      have F0 : Hid (Below w.heap.size w (wr.alloc (.cells #[.int .i64 ds, .int .i64 dp, .int .i64 dl, .string dn, .int .i64 dx] 142)) ∧ Go.Lib.IsBuilderF 134 5 bb bb (Go.Lib.byteCells (T2 ++ chgT (l.take k))) (wr.alloc (.cells #[.int .i64 ds, .int .i64 dp, .int .i64 dl, .string dn, .int .i64 dx] 142)) ∧ Bk (wr.alloc (.cells #[.int .i64 ds, .int .i64 dp, .int .i64 dl, .string dn, .int .i64 dx] 142)) wr.heap.size 142 #[.int .i64 ds, .int .i64 dp, .int .i64 dl, .string dn, .int .i64 dx] ∧ bb < wr.heap.size) :=
       ⟨bt_alloc Hb.out _, isBuilder_below Hib.out (bt_new _ _), Bk.new wr 142 #[.int .i64 ds, .int .i64 dp, .int .i64 dl, .string dn, .int .i64 dx], builder_lt Hib.out⟩
      clear c0 c1 c2 c3 c4 Hb Hib
      generalize (wr.alloc (.cells #[.int .i64 ds, .int .i64 dp, .int .i64 dl, .string dn, .int .i64 dx] 142)) = W0 at F0 ⊢
      generalize wr.heap.size = bx at F0 ⊢
      have hbx := F0.out.2.2.2
      have hS : ∀ W : World, Bk W bx 142 #[.int .i64 ds, .int .i64 dp, .int .i64 dl, .string dn, .int .i64 dx] → (fun W : World => W.cell? ⟨bx, 0, none⟩ = some (.int .i64 ds) ∧ W.cell? ⟨bx, 1, none⟩ = some (.int .i64 dp) ∧ W.cell? ⟨bx, 2, none⟩ = some (.int .i64 dl) ∧ W.cell? ⟨bx, 3, none⟩ = some (.string dn) ∧ W.cell? ⟨bx, 4, none⟩ = some (.int .i64 dx)) W := fun W h => cells5P h
      have hcur : Below w.heap.size w W0.drew := bt_drew F0.out.1
      have Hib : Hid (Go.Lib.IsBuilderF 134 5 bb bb (Go.Lib.byteCells (T2 ++ chgT (l.take k))) W0.drew) := F0.out.2.1
      have Hbk : Hid (Bk W0.drew bx 142 #[.int .i64 ds, .int .i64 dp, .int .i64 dl, .string dn, .int .i64 dx]) := F0.out.2.2.1.drew
      clear F0
      refine wp_region_held_drew (S := fun W => W.cell? ⟨bx, 0, none⟩ = some (.int .i64 ds) ∧ W.cell? ⟨bx, 1, none⟩ = some (.int .i64 dp) ∧ W.cell? ⟨bx, 2, none⟩ = some (.int .i64 dl) ∧ W.cell? ⟨bx, 3, none⟩ = some (.string dn) ∧ W.cell? ⟨bx, 4, none⟩ = some (.int .i64 dx)) (by kernel_rfl) (hS _ Hbk.out) (fun hHeld => ?_)
      refine tkE (i := 0) rfl ?_
      refine tkE (i := 1) rfl ?_
      refine tkE (i := 2) rfl ?_
      refine tkE (i := 3) rfl ?_
      refine tkE (i := 5) rfl ?_
      refine tkE (i := 6) rfl ?_
      refine tkE (i := 7) rfl ?_
      refine tkE (i := 9) rfl ?_
      refine tkE (i := 10) rfl ?_
      refine tkE (i := 11) rfl ?_
      refine tkE (i := 13) rfl ?_
      refine tkE (i := 14) rfl ?_
      refine tkE (i := 15) rfl ?_
      refine tkE (i := 16) rfl ?_
      refine tkE (i := 17) rfl ?_
      refine rdE (i := 4) rfl (fun K hK => ?_)
      go_simp
      (go_at_call 71; refine (Hit.out _ hcur dp z1'.1 (.inr ⟨_, Hmem.out, rfl⟩)).mono ?_; rintro e wi ⟨rfl, hbi⟩; replace Hib := Lib.hid (isBuilder_below Hib.out hbi); replace Hbk := Lib.hid (Hbk.out.below hbi Hbk.out.lt); replace hcur := bt_trans hcur hbi; clear hbi)
      go_wp2_with fail
      refine onE hK (hS _ Hbk.out) (fun hHeld => ?_)
      clear hK K
      clear hHeld
      refine rdE (i := 8) rfl (fun K hK => ?_)
      go_simp
      (go_at_call 71; refine (Hit.out _ hcur ds z0'.1 (.inl (by omega))).mono ?_; rintro e wi ⟨rfl, hbi⟩; replace Hib := Lib.hid (isBuilder_below Hib.out hbi); replace Hbk := Lib.hid (Hbk.out.below hbi Hbk.out.lt); replace hcur := bt_trans hcur hbi; clear hbi)
      go_wp2_with fail
      refine onE hK (hS _ Hbk.out) (fun hHeld => ?_)
      clear hK K
      clear hHeld
      refine rdE (i := 12) rfl (fun K hK => ?_)
      go_simp
      (go_at_call 71; refine (Hit.out _ hcur dl (by omega) (.inl (by omega))).mono ?_; rintro e wi ⟨rfl, hbi⟩; replace Hib := Lib.hid (isBuilder_below Hib.out hbi); replace Hbk := Lib.hid (Hbk.out.below hbi Hbk.out.lt); replace hcur := bt_trans hcur hbi; clear hbi)
      go_wp2_with fail
      refine onE hK (hS _ Hbk.out) (fun hHeld => ?_)
      clear hK K
      clear hHeld
      refine rdE (i := 18) rfl (fun K hK => ?_)
      go_simp
      (go_at_call 71; refine (Hit.out _ hcur dx (by omega) (.inl (by omega))).mono ?_; rintro e wi ⟨rfl, hbi⟩; replace Hib := Lib.hid (isBuilder_below Hib.out hbi); replace Hbk := Lib.hid (Hbk.out.below hbi Hbk.out.lt); replace hcur := bt_trans hcur hbi; clear hbi)
      go_wp2_with fail
      refine onE hK (hS _ Hbk.out) (fun hHeld => ?_)
      clear hK K
      clear hHeld
      refine rdE (i := 19) rfl (fun K hK => ?_)
      go_simp
      refine onE hK (hS _ (Hbk.out.alloc _)) (fun hHeld => ?_)
      clear hK K
      clear hHeld
      refine rdE (i := 20) rfl (fun K hK => ?_)
      go_simp
      (go_at_call 74; refine (line_n ws 6 Hlw.out _ 6 _ (by rw [Hsw.out]; exact cells_new _ 9 _) (by exact heap_alloc_lt _ _) (by omega) (by omega) (by omega)).mono ?_; rintro e wi ⟨rfl, hbi⟩; replace Hib := Lib.hid (isBuilder_below (isBuilder_below Hib.out (bt_new _ _)) hbi); replace Hbk := Lib.hid ((Hbk.out.alloc _).below hbi (Hbk.out.alloc _).lt); replace hcur := bt_trans (bt_alloc hcur _) hbi; clear hbi)
      go_wp2_with fail
      refine onE hK (hS _ Hbk.out) (fun hHeld => ?_)
      clear hK K
      clear hHeld
      refine rdE (i := 21) rfl (fun K hK => ?_)
      go_simp
      (go_at_call 72; refine (writeStringK bb bb _ (lineS ws) _ Hib.out (by rw [Go.Lib.byteCells_length, List.length_append]; omega) (by have := builder_lt Hib.out; omega)).mono ?_; rintro e wi ⟨rfl, hbu, hbi, hok⟩; replace Hbk := Lib.hid (bk_kept Hbk.out hok (by omega)); replace hcur := hcur.trans (hbi.mono (Nat.le_of_lt Hbb.out)); clear hbi hok Hib)
      go_wp2_with fail
      refine onE hK (hS _ Hbk.out) (fun hHeld => ?_)
      clear hK K
      clear hHeld
      refine wpAnyH_done (by kernel_rfl) ?_ _
      go_wp2
      go_roundw
      case rel =>
       refine ⟨k + 1, by omega, by go_num, hcur, .inr ?_, ?_⟩
       ·
        rw [Hct.out, ← List.append_assoc, Go.Lib.byteCells_append, ← Go.Lib.strCells_eq]
        exact hbu
       ·
        rw [Hct.out, List.length_append]
        have : (lineS ws).data.toList.length = (lineS ws).size := Array.length_toList
        omega
      case measure => simp [intOf]; omega
     ·
      obtain rfl : k = n := by omega
      have e0 : l.take k = l := List.take_of_length_le (by rw [Hn.out]; exact Nat.le_refl _)
      rw [e0, ← Hpl.out] at Hib
      have Hbsz := Lib.hid (builder_lt Hib.out)
      go_wp2_with (go_at_call 75; refine (builderString bb bb _ _ Hib.out (Nat.le_of_lt Hbsz.out)).mono ?_; rintro e w5 ⟨rfl, hb5⟩)
      go_ret2
      have hpr : printR t l = ⟨(printL t l).toArray⟩ := by unfold printR; rw [if_neg (by rw [HE.out]; simp)]
      refine ⟨?_, Hb.out.trans (hb5.mono (Nat.le_of_lt Hbb.out))⟩
      rw [hpr, HE.out]
      rfl
 ·
  have hz : (checkChanges t l != 0) = true := by simpa using hE
  have HE := Lib.hid hE; clear hE
  go_wp2
  go_ret2
  exact ⟨by unfold printR; rw [if_pos HE.out]; rfl, F1.out.1⟩

theorem print_any (t : Tms) (ht : t.ok) (T : Array Value) (hT : T = t.cells.toArray) (l : List Chg) (A : Option Addr) (n c : Nat) (hn : l.length = n) (w : World) (hl : RdC w A l) (hit : ItoaOk w l) :
 Calls Tryz.prog 22 #[.agg T, .slice A n c] w fun x w' => x = .returned (.tuple #[.string (printR t l), .int .i64 (checkChanges t l)]) ∧ Below w.heap.size w w' :=
 print_gen t ht T hT l A n c hn w hl (fun _ => hit)

end Go.Proofs.YtmagppkclnebjaaGreatDoor
