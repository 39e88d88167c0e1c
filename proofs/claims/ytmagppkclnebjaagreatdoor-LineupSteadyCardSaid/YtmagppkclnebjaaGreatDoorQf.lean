/- Texts of this seat, joined: The frame that the rows of this seat share: what the listed variables give, a world that meets the condition, the arguments laid open · The arguments of this seat's rows laid open: a lineup, a list of strings; the witness world · More arguments of this seat's rows laid open: a lineup whose names have their bounds, a list of bytes · More arguments of this seat's rows laid open: a game (teams and changes). -/
import Derived.Test.YtmagppkclnebjaaGreatDoorTie
import Derived.Test.YtmagppkclnebjaaGreatDoorCards
import Derived.Test.YtmagppkclnebjaaGreatDoorB5
import Derived.Test.YtmagppkclnebjaaGreatDoorQr
import Derived.Deep.Strs
import Derived.ProofKit
import Derived.OpenShut
import Derived.LaidMore
import Derived.Lay
import Derived.Lib.LaidU8
import Derived.SevenTiedAt
import Derived.Stop.Joined
import Derived.ChangeSlices
set_option linter.unusedVariables false
set_option linter.unusedSimpArgs false
namespace Go.Proofs.YtmagppkclnebjaaGreatDoor
open Go.ChangeShapes Go.WideShapes Go.ChangeAt Go.RowKit
open L

theorem ownKnobN : ownKnob Tryz.prog.godebug = none := by kernel_rfl
/-- what the rows list -/
def laidL : List (String × DataW Unit) := Rows.lineupOrdersRow.laid
theorem laid_plain {W : World} (h : laidMetH Tryz.prog laidL W) : laidMet Tryz.prog laidL W := by
 rw [MakeChecks.laidMetH_plain _ _ _ (by kernel_rfl)] at h; exact h
/-- a variable of one cell, of an integer type, holds an integer -/
theorem int_of_shape {P : Program} {w : World} {g : Nat} {t : TypeId} {k : IntKind} {zero : Array Value} (h : w.ShapedOpen P) (hg : g < P.globals.size)
 (h0 : ((begin P (fun _ _ => 0) default).world.heap[g]?).bind Obj.row? = some (zero, t)) (hz : zero.size = 1)
 (hb : P.buildable t = true) (hc : P.cellTypes P.depth t = some [t]) (hu : P.underlying t = some (.int k)) : ∃ n, w.cell? ⟨g, 0, none⟩ = some (.int k n) := by
 obtain ⟨cs, hh, hs, hr⟩ := h.1 g zero t hg h0
 obtain ⟨ts, hts, _, hall⟩ := hr hb
 rw [hc] at hts
 cases hts
 have h1 : 0 < cs.size := by omega
 obtain ⟨u, hu', hok⟩ := hall 0 cs[0] (by simp [h1])
 have e : u = t := by simpa using hu'.symm
 subst e
 have hcell : w.cell? ⟨g, 0, none⟩ = some cs[0] := by simp [World.cell?, hh, h1]
 rw [hcell]
 unfold Cell.ok at hok
 rw [hu] at hok
 cases hv : cs[0] <;> rw [hv] at hok <;> simp at hok
 exact ⟨_, by rw [hok.1]⟩
theorem iface_cell {W : World} {n nm : String} {d : DataW Unit} {g : Nat} {ms : Array (String × TypeId)} {t : TypeId} (h : Lib.VarReads Tryz.prog W n (.iface nm d)) (hg : Tryz.prog.globalNamed n = some g)
 (ht : (Tryz.prog.globals[g]?).map (·.type) = some t) (hu : Tryz.prog.underlying t = some (.interface ms)) : ∃ u p, W.cell? ⟨g, 0, none⟩ = some (.iface u p) := by
 obtain ⟨g', t', cs, fuel, p, h1, h2, h3, h4⟩ := h
 obtain rfl := Option.some.inj (hg.symm.trans h1)
 obtain rfl := Option.some.inj (ht.symm.trans h2)
 obtain ⟨_, u, v, e, _⟩ := iface_of_trod hu h4
 refine ⟨u, v, ?_⟩
 have := World.var?_cell hg h3 0
 rw [this]
 obtain ⟨l⟩ := cs
 simp only at e
 subst e
 rfl
set_option maxRecDepth 100000 in
theorem tab_is {W : World} (h : Lib.VarReads Tryz.prog W "internal/strconv.uint64pow10" Rows.laid_internal_strconv_uint64pow10) : Lib.TabIs Tryz.prog W "internal/strconv.uint64pow10" .u64 Lib.pow10Tab := by
 obtain ⟨g', t', cs, fuel, p, h1, h2, h3, h4⟩ := h
 obtain rfl := Option.some.inj ((show Tryz.prog.globalNamed "internal/strconv.uint64pow10" = some 0 by kernel_rfl).symm.trans h1)
 obtain rfl := Option.some.inj ((show (Tryz.prog.globals[0]?).map (·.type) = some 254 by kernel_rfl).symm.trans h2)
 have e : (Rows.laid_internal_strconv_uint64pow10 : DataW Unit) = Lib.tabData .u64 Lib.pow10Tab := by kernel_rfl
 rw [e] at h4
 unfold Lib.TabIs
 rw [h3, ← Lib.cells_of_tab Tryz.underlying254 Tryz.underlying224 (by kernel_rfl) (by kernel_rfl) h4]
/-- WHAT THE CONDITION GIVES THE WALKS -/
theorem env_of {W : World} (hL : laidMetH Tryz.prog laidL W) (hs : W.ShapedOpen Tryz.prog) : Env W := by
 have h := laid_plain hL
 refine ⟨?_, ?_, ?_, ?_, ?_⟩
 ·
  exact int_of_shape (g := 1) (t := 3) (zero := #[.int .i64 0]) hs (by decide +kernel) (by kernel_rfl) rfl (by kernel_rfl) (by kernel_rfl) Tryz.underlying3
 ·
  exact iface_cell (Lib.laidMet.reads h (n := "strconv.ErrSyntax") (d := Rows.laid_strconv_ErrSyntax) (by simp [laidL, Rows.lineupOrdersRow])) (by kernel_rfl) (by kernel_rfl) Tryz.underlying138
 ·
  exact iface_cell (Lib.laidMet.reads h (n := "strconv.ErrRange") (d := Rows.laid_strconv_ErrRange) (by simp [laidL, Rows.lineupOrdersRow])) (by kernel_rfl) (by kernel_rfl) Tryz.underlying138
 ·
  exact tab_is (Lib.laidMet.reads h (by simp [laidL, Rows.lineupOrdersRow]))
 ·
  obtain ⟨u, p, hc⟩ := iface_cell (Lib.laidMet.reads h (n := "strconv.ErrRange") (d := Rows.laid_strconv_ErrRange) (by simp [laidL, Rows.lineupOrdersRow])) (by kernel_rfl) (by kernel_rfl) Tryz.underlying138
  exact World.block_lt_of_cell? W ⟨5, 0, none⟩ hc
end Go.Proofs.YtmagppkclnebjaaGreatDoor

namespace Go.Proofs.YtmagppkclnebjaaGreatDoor
open Go.ChangeShapes Go.WideShapes Go.ChangeAt Go.RowKit
open L
set_option maxRecDepth 100000

theorem strs_of : ∀ (cs : List Value), (∀ (i : Nat) v, cs[i]? = some v → ∃ s, v = Value.string s) → ∃ b : List Str, cs = b.map Value.string
 | [], _ => ⟨[], rfl⟩
 | c :: cs, h => by
  obtain ⟨s, rfl⟩ := h 0 c rfl
  obtain ⟨b, rfl⟩ := strs_of cs fun i v hv => h (i + 1) v (by simpa using hv)
  exact ⟨s :: b, rfl⟩
theorem ints_of : ∀ (cs : List Value), (∀ (i : Nat) v, cs[i]? = some v → ∃ n, v = Value.int .i64 n) → ∃ b : List Int, cs = b.map (Value.int .i64)
 | [], _ => ⟨[], rfl⟩
 | c :: cs, h => by
  obtain ⟨s, rfl⟩ := h 0 c rfl
  obtain ⟨b, rfl⟩ := ints_of cs fun i v hv => h (i + 1) v (by simpa using hv)
  exact ⟨s :: b, rfl⟩
theorem take_one {α : Type} (l : List α) (i : Nat) (v x : α) (h : l[i]? = some v) (e : (l.drop i).take 1 = [x]) : v = x := by
 obtain ⟨hi, rfl⟩ := List.getElem?_eq_some_iff.1 h
 rw [List.drop_eq_getElem_cons hi, List.take_succ_cons] at e
 injection e
section
variable {H : Type} {enc : TypeId × Value → H} {W : World} {base : Nat} {sp : Nat → Bool} {held : Bool}
theorem c9 : Tryz.prog.cellsOf 9 = 1 := by kernel_rfl
theorem c3 : Tryz.prog.cellsOf 3 = 1 := by kernel_rfl
theorem c22 : Tryz.prog.cellsOf 22 = 9 := by kernel_rfl
theorem c23 : Tryz.prog.cellsOf 23 = 9 := by kernel_rfl
theorem c25 : Tryz.prog.cellsOf 25 = 18 := by kernel_rfl
theorem c46 : Tryz.prog.cellsOf 46 = 36 := by kernel_rfl
theorem c49 : Tryz.prog.cellsOf 49 = 37 := by kernel_rfl
theorem c47 : Tryz.prog.cellsOf 47 = 1 := by kernel_rfl
theorem c144 : Tryz.prog.cellsOf 144 = 5 := by kernel_rfl
theorem arrS {fuel : Nat} {cs : List Value} {x : DataW H × List MemPlace} (h : DataW.trod enc Tryz.prog W base sp held fuel 22 cs = some x) : ∃ b : List Str, b.length = 9 ∧ cs = b.map Value.string := by
 obtain ⟨xs, m, _, _, hl, hn, hel⟩ := DataW.trod_array Tryz.underlying22 h
 rw [c22] at hl
 obtain ⟨b, hb⟩ := strs_of cs fun i v hv => by
  have hi : i < 9 := by have := (List.getElem?_eq_some_iff.1 hv).1; omega
  have he := hel i hi
  rw [c9, Nat.mul_one, List.getElem?_eq_getElem (by omega)] at he
  obtain ⟨s, e, _⟩ := DataW.trod_string Tryz.underlying9 he
  exact ⟨s, take_one cs i v _ hv e⟩
 refine ⟨b, ?_, hb⟩
 rw [hb, List.length_map] at hl; exact hl
theorem arrI {fuel : Nat} {cs : List Value} {x : DataW H × List MemPlace} (h : DataW.trod enc Tryz.prog W base sp held fuel 23 cs = some x) : ∃ b : List Int, b.length = 9 ∧ cs = b.map (Value.int .i64) := by
 obtain ⟨xs, m, _, _, hl, hn, hel⟩ := DataW.trod_array Tryz.underlying23 h
 rw [c23] at hl
 obtain ⟨b, hb⟩ := ints_of cs fun i v hv => by
  have hi : i < 9 := by have := (List.getElem?_eq_some_iff.1 hv).1; omega
  have he := hel i hi
  rw [c3, Nat.mul_one, List.getElem?_eq_getElem (by omega)] at he
  obtain ⟨s, e, _⟩ := DataW.trod_int Tryz.underlying3 he
  exact ⟨s, take_one cs i v _ hv e⟩
 refine ⟨b, ?_, hb⟩
 rw [hb, List.length_map] at hl; exact hl
theorem lu_of {fuel : Nat} {cs : List Value} {x : DataW H × List MemPlace} (h : DataW.trod enc Tryz.prog W base sp held fuel 25 cs = some x) : ∃ o : LU, o.ok ∧ cs = o.cells := by
 obtain ⟨y0, y1, n, _, hl, h0, h1⟩ := trod_struct2 Tryz.underlying25 h
 rw [c25] at hl
 obtain ⟨b, hb, e0⟩ := arrS h0
 obtain ⟨p, hp, e1⟩ := arrI h1
 refine ⟨⟨b, p⟩, ⟨hb, hp⟩, ?_⟩
 simp only [c22, c23] at e0 e1
 show cs = b.map .string ++ p.map (.int .i64)
 rw [← e0, ← e1, List.drop_zero]
 have e2 : (cs.drop 9).take 9 = cs.drop 9 := List.take_of_length_le (by rw [List.length_drop]; omega)
 rw [e2, List.take_append_drop]
theorem agg_of {t : TypeId} {fs : Array Field} {v : Value} {r : Reach} {b0 : Nat} (hu : Tryz.prog.underlying t = some (.struct fs)) (h : Value.okWide Tryz.prog W r b0 t v) : ∃ cs : Array Value, v = .agg cs := by
 unfold Value.okWide at h
 rw [hu] at h
 obtain ⟨cs, e, _⟩ := h
 exact ⟨cs, e⟩
theorem open_lu {v : Value} {d : DataW H} {ps : List MemPlace} {r : Reach} {b0 : Nat} (hv : Value.okWide Tryz.prog W r b0 25 v) (h : DataW.Trod enc Tryz.prog W base sp held 25 v d ps) : ∃ o : LU, o.ok ∧ v = .agg o.cells.toArray := by
 obtain ⟨cs, rfl⟩ := agg_of Tryz.underlying25 hv
 obtain ⟨fuel, hf⟩ := h
 obtain ⟨o, ho, e⟩ := lu_of hf
 refine ⟨o, ho, ?_⟩
 have : cs.toList = o.cells := e
 rw [← this]
theorem okWide_slice {t e : TypeId} {v : Value} {r : Reach} {b0 : Nat} (hu : Tryz.prog.underlying t = some (.slice e)) (h : Value.okWide Tryz.prog W r b0 t v) : ∃ A n c, v = .slice A n c := by
 unfold Value.okWide at h
 rw [hu] at h
 simp only [Cell.okWide, Cell.ok, hu] at h
 cases v <;> first | exact ⟨_, _, _, rfl⟩ | simp at h
theorem open_came {v : Value} {d : DataW H} {ps : List MemPlace} {r : Reach} {b0 : Nat} (hv : Value.okWide Tryz.prog W r b0 26 v) (h : DataW.Trod enc Tryz.prog W base sp held 26 v d ps) :
 ∃ (came : List Str) (C : Option Addr) (n c : Nat), v = .slice C n c ∧ came.length = n ∧ n ≤ maxLen ∧ Rd W C (came.map Value.string) ∧ (C = none → n = 0 ∧ c = 0) := by
 obtain ⟨A, n, c, rfl⟩ := okWide_slice Tryz.underlying26 hv
 obtain ⟨fuel, hf⟩ := h
 rcases Go.Deep.open_strs Tryz.underlying26 Tryz.underlying9 c9 hf with ⟨e, _⟩ | ⟨a, len, cap, m, Sx, e, _, hle, hmax, hm, _, hcell⟩
 ·
  have e' : (Value.slice A n c) = .slice none 0 0 := by simpa [Value.cells] using e
  injection e' with e1 e2 e3
  subst e1; subst e2; subst e3
  exact ⟨[], none, 0, 0, rfl, rfl, Nat.zero_le _, .inl rfl, fun _ => ⟨rfl, rfl⟩⟩
 ·
  have e' : (Value.slice A n c) = .slice (some a) len cap := by simpa [Value.cells] using e
  injection e' with e1 e2 e3
  subst e1; subst e2; subst e3
  have hnm : n ≤ m := by rw [hm]; split <;> omega
  refine ⟨(List.range n).map Sx, some a, n, c, rfl, by simp, by omega, ?_, fun h => by cases h⟩
  by_cases hz : n = 0
  ·
   subst hz; exact .inl rfl
  ·
   obtain ⟨b, off, s⟩ := a
   have hsp : s = none := by
    have := (hcell 0 (by omega)).1
    exact cell_spot (b := b) (o := off) (by
     cases s <;> simpa [Addr.add] using this)
   subst hsp
   refine .inr ⟨b, off, rfl, fun k hk => ?_⟩
   have hk' : k < n := by simpa using hk
   have := (hcell k (by omega)).1
   rw [Addr.add_mid] at this
   rw [this]; simp [hk']
end
noncomputable def wit (os : Os) : World := World.laidAll Tryz.prog os laidL
theorem wit_os (os : Os) : (wit os).os = os := World.laidAll_os _ _ _
theorem wit_met (os : Os) (args : Array Value) : laidMetH Tryz.prog laidL ((wit os).forCall (fun _ _ => 0) ⟨#[], args, []⟩).memory := by
 rw [MakeChecks.laidMetH_plain _ _ _ (by kernel_rfl)]; exact laidMet_laidAll _ (by kernel_rfl) (by kernel_rfl)
theorem laidOutN : laidOutB Tryz.prog = true := by kernel_rfl
section
variable {H : Type} {enc : TypeId × Value → H}
/-- what was there reads as it did where only new blocks came -/
theorem trodAll_below {P : Program} (hl : laidOutB P = true) {W W' : World} (hb : Below W.heap.size W W') : ∀ {ts : List TypeId} {vs : List Value} {ds : List (DataW H)} {ps : List MemPlace}, (ts.all fun t => P.readableRec t && decide (t < P.types.size)) = true →
 DataW.TrodAll enc P W 0 (fun _ => true) true ts vs ds ps → (∀ x ∈ ps, x.block < W.heap.size) → DataW.TrodAll enc P W' 0 (fun b => decide (b < W.heap.size)) true ts vs ds ps
 | [], vs, ds, ps, _, h, _ => by
  obtain ⟨rfl, rfl, rfl⟩ := trodAll_nil h
  exact trodAll_mk0
 | t :: ts, vs, ds, ps, ht, h, hlt => by
  obtain ⟨v, vs', d, ds', p, q, rfl, rfl, rfl, h1, h2⟩ := trodAll_cons h
  simp only [List.all_cons, Bool.and_eq_true, decide_eq_true_eq] at ht
  exact ⟨p, q, Below.trod hl ht.1.1 ht.1.2 h1 hb (fun x hx => hlt x (List.mem_append_left _ hx)), trodAll_below hl hb (by simpa using ht.2) h2 (fun x hx => hlt x (List.mem_append_right _ hx)), rfl⟩
/-- a law that returns true, and only makes new blocks, does what its row says -/
theorem law_post {f : Func} {s : ChangeSpec} {W W' : World} {args : Array Value} {ds gs : List (DataW H)} {before p : List MemPlace} (hres : f.resultTypes = #[4]) (hv : s.vars = [])
 (hfn : s.fn H (ds ++ gs) = { results := [.lit (.bool true)], args := ds }) (hts : (f.params.toList.all fun t => Tryz.prog.readableRec t && decide (t < Tryz.prog.types.size)) = true)
 (hA : DataW.TrodAll enc Tryz.prog W 0 (fun _ => true) true f.params.toList args.toList ds p)
 (hW : DataW.Whole enc Tryz.prog f.params.toList s.vars false W args.toList ds gs before) (hp : ∀ x ∈ p, x ∈ before) (hb : Below W.heap.size W W') :
 s.post enc Tryz.prog f false true false false W args (.bool true) W' := by
 have hlt : ∀ x ∈ p, x.block < W.heap.size := fun x hx => hW.lt x (hp x hx)
 refine ⟨ds, gs, before, [], p, [], hW, ?_, ?_, ?_, hb.frame _, fun h => by cases h⟩
 ·
  rw [hres, hfn]; exact trodAll_mk1 (shut_bool Tryz.underlying4 _)
 ·
  rw [hfn]; exact trodAll_below laidOutN hb hts hA hlt
 ·
  rw [hfn, hv]; rfl
end
end Go.Proofs.YtmagppkclnebjaaGreatDoor

namespace Go.Proofs.YtmagppkclnebjaaGreatDoor
open Go.ChangeShapes Go.WideShapes Go.ChangeAt Go.RowKit
open L
set_option maxRecDepth 100000

theorem strsB_of : ∀ (cs : List Value), (∀ (i : Nat) v, cs[i]? = some v → ∃ s, v = Value.string s ∧ s.size ≤ 9223372036854775807) → ∃ b : List Str, cs = b.map Value.string ∧ ∀ s ∈ b, s.size ≤ 9223372036854775807
 | [], _ => ⟨[], rfl, fun _ h => absurd h (List.not_mem_nil)⟩
 | c :: cs, h => by
  obtain ⟨s, rfl, hs⟩ := h 0 c rfl
  obtain ⟨b, rfl, hb⟩ := strsB_of cs fun i v hv => h (i + 1) v (by simpa using hv)
  refine ⟨s :: b, rfl, fun x hx => ?_⟩
  rcases List.mem_cons.1 hx with rfl | hx
  ·
   exact hs
  ·
   exact hb x hx
section
variable {H : Type} {enc : TypeId × Value → H} {W : World} {base : Nat} {sp : Nat → Bool} {held : Bool}
theorem arrSB {fuel : Nat} {cs : List Value} {x : DataW H × List MemPlace} (h : DataW.trod enc Tryz.prog W base sp held fuel 22 cs = some x) : ∃ b : List Str, b.length = 9 ∧ cs = b.map Value.string ∧ ∀ s ∈ b, s.size ≤ 9223372036854775807 := by
 obtain ⟨xs, m, _, _, hl, hn, hel⟩ := DataW.trod_array Tryz.underlying22 h
 rw [c22] at hl
 obtain ⟨b, hb, hs⟩ := strsB_of cs fun i v hv => by
  have hi : i < 9 := by have := (List.getElem?_eq_some_iff.1 hv).1; omega
  have he := hel i hi
  rw [c9, Nat.mul_one, List.getElem?_eq_getElem (by omega)] at he
  obtain ⟨s, e, _, h3⟩ := DataW.trod_string Tryz.underlying9 he
  exact ⟨s, take_one cs i v _ hv e, h3⟩
 refine ⟨b, ?_, hb, hs⟩
 rw [hb, List.length_map] at hl; exact hl
theorem luB_of {fuel : Nat} {cs : List Value} {x : DataW H × List MemPlace} (h : DataW.trod enc Tryz.prog W base sp held fuel 25 cs = some x) : ∃ o : LU, o.ok ∧ cs = o.cells ∧ ∀ s ∈ o.b, s.size ≤ 9223372036854775807 := by
 obtain ⟨y0, y1, n, _, hl, h0, h1⟩ := trod_struct2 Tryz.underlying25 h
 rw [c25] at hl
 obtain ⟨b, hb, e0, hs⟩ := arrSB h0
 obtain ⟨p, hp, e1⟩ := arrI h1
 refine ⟨⟨b, p⟩, ⟨hb, hp⟩, ?_, hs⟩
 simp only [c22, c23] at e0 e1
 show cs = b.map .string ++ p.map (.int .i64)
 rw [← e0, ← e1, List.drop_zero]
 have e2 : (cs.drop 9).take 9 = cs.drop 9 := List.take_of_length_le (by rw [List.length_drop]; omega)
 rw [e2, List.take_append_drop]
theorem open_luB {v : Value} {d : DataW H} {ps : List MemPlace} {r : Reach} {b0 : Nat} (hv : Value.okWide Tryz.prog W r b0 25 v) (h : DataW.Trod enc Tryz.prog W base sp held 25 v d ps) : ∃ o : LU, o.ok ∧ v = .agg o.cells.toArray ∧ ∀ s ∈ o.b, s.size ≤ 9223372036854775807 := by
 obtain ⟨cs, rfl⟩ := agg_of Tryz.underlying25 hv
 obtain ⟨fuel, hf⟩ := h
 obtain ⟨o, ho, e, hs⟩ := luB_of hf
 refine ⟨o, ho, ?_, hs⟩
 have : cs.toList = o.cells := e
 rw [← this]
theorem c5B : Tryz.prog.cellsOf 5 = 1 := by kernel_rfl
theorem u8_bounds {n : Int} (h : (Lit.int .u8 n).wf = true) : 0 ≤ n ∧ n ≤ 255 := by
 simp [Lit.wf, IntKind.min, IntKind.max, IntKind.bits, IntKind.signed] at h
 omega
theorem open_u8s {v : Value} {d : DataW H} {ps : List MemPlace} {r : Reach} {b0 : Nat} (hv : Value.okWide Tryz.prog W r b0 68 v) (h : DataW.Trod enc Tryz.prog W base sp held 68 v d ps) :
 ∃ (cm : List Int) (C : Option Addr) (n c : Nat), v = .slice C n c ∧ cm.length = n ∧ n ≤ maxLen ∧ Rd W C (cm.map (.int .u8)) ∧ (C = none → n = 0 ∧ c = 0) ∧ ∀ x ∈ cm, 0 ≤ x ∧ x ≤ 255 := by
 obtain ⟨A, n, c, rfl⟩ := okWide_slice Tryz.underlying68 hv
 obtain ⟨fuel, hf⟩ := h
 rcases open_ints Tryz.underlying68 Tryz.underlying5 c5B hf with ⟨e, _⟩ | ⟨a, len, cap, zs, e, _, hle, hmax, hm, _, hcell, hwf⟩
 ·
  have e' : (Value.slice A n c) = .slice none 0 0 := by simpa [Value.cells] using e
  injection e' with e1 e2 e3
  subst e1; subst e2; subst e3
  exact ⟨[], none, 0, 0, rfl, rfl, Nat.zero_le _, .inl rfl, fun _ => ⟨rfl, rfl⟩, fun _ h => absurd h (List.not_mem_nil)⟩
 ·
  have e' : (Value.slice A n c) = .slice (some a) len cap := by simpa [Value.cells] using e
  injection e' with e1 e2 e3
  subst e1; subst e2; subst e3
  have hnm : n ≤ zs.length := by rw [hm]; split <;> omega
  refine ⟨zs.take n, some a, n, c, rfl, by rw [List.length_take]; omega, by omega, ?_, (fun h => by cases h), fun x hx => u8_bounds (hwf x (List.mem_of_mem_take hx))⟩
  by_cases hz : n = 0
  ·
   subst hz; exact .inl rfl
  ·
   obtain ⟨b, off, s⟩ := a
   have hsp : s = none := by
    have := hcell 0 (by omega)
    exact cell_spot (b := b) (o := off) (by
     cases s <;> simpa [Addr.add] using this)
   subst hsp
   refine .inr ⟨b, off, rfl, fun k hk => ?_⟩
   have hk' : k < n := by rw [List.length_map, List.length_take] at hk; omega
   have := hcell k (by omega)
   rw [Addr.add_mid] at this
   have hkz : k < zs.length := by omega
   rw [this, List.getElem?_map, List.getElem?_take, if_pos hk', List.getElem?_eq_getElem hkz]
   simp [List.getD, List.getElem?_eq_getElem hkz]
end
end Go.Proofs.YtmagppkclnebjaaGreatDoor

namespace Go.Proofs.YtmagppkclnebjaaGreatDoor
open Go.ChangeShapes Go.WideShapes Go.ChangeAt Go.RowKit
open L
set_option maxRecDepth 100000
section
variable {H : Type} {enc : TypeId × Value → H} {W : World} {base : Nat} {sp : Nat → Bool} {held : Bool}

theorem tms_of {fuel : Nat} {cs : List Value} {x : DataW H × List MemPlace} (h : DataW.trod enc Tryz.prog W base sp held fuel 46 cs = some x) : ∃ t : Tms, t.ok ∧ cs = t.cells ∧ ∀ s ∈ t.l0.b ++ t.l1.b, s.size ≤ 9223372036854775807 := by
 obtain ⟨xs, m, _, _, hl, hn, hel⟩ := DataW.trod_array Tryz.underlying46 h
 rw [c46] at hl
 have h0 := hel 0 (by omega); have h1 := hel 1 (by omega)
 rw [c25, List.getElem?_eq_getElem (by omega)] at h0 h1
 obtain ⟨o0, ho0, e0, s0⟩ := luB_of h0
 obtain ⟨o1, ho1, e1, s1⟩ := luB_of h1
 refine ⟨⟨o0, o1⟩, ⟨ho0, ho1⟩, ?_, fun s hs => ?_⟩
 ·
  show cs = o0.cells ++ o1.cells
  rw [← e0, ← e1, Nat.zero_mul, List.drop_zero, Nat.one_mul]
  have e2 : (cs.drop 18).take 18 = cs.drop 18 := List.take_of_length_le (by rw [List.length_drop]; omega)
  rw [e2, List.take_append_drop]
 ·
  rcases List.mem_append.1 hs with h | h
  ·
   exact s0 s h
  ·
   exact s1 s h
theorem cut1 {cs : List Value} {k : Nat} {v : Value} (h : (cs.drop k).take 1 = [v]) : cs[k]? = some v := by
 have := congrArg (fun l => l[0]?) h
 simpa [List.getElem?_take, List.getElem?_drop] using this
theorem chg_of {fuel : Nat} {cs : List Value} {x : DataW H × List MemPlace} (h : DataW.trod enc Tryz.prog W base sp held fuel 144 cs = some x) : ∃ d : Chg, cs = d.val.toList ∧ d.name.size ≤ 9223372036854775807 := by
 obtain ⟨xs, n, _, _, hl, hlen, hf⟩ := DataW.trod_struct Tryz.underlying144 h
 rw [c144] at hl
 match xs, hlen with
 | [y0, y1, y2, y3, y4], _ =>
  have h0 : DataW.trod enc Tryz.prog W base sp held n 3 ((cs.drop 0).take (Tryz.prog.cellsOf 3)) = some y0 := hf 0 _ rfl
  have h1 : DataW.trod enc Tryz.prog W base sp held n 3 ((cs.drop 1).take (Tryz.prog.cellsOf 3)) = some y1 := hf 1 _ rfl
  have h2 : DataW.trod enc Tryz.prog W base sp held n 3 ((cs.drop 2).take (Tryz.prog.cellsOf 3)) = some y2 := hf 2 _ rfl
  have h3 : DataW.trod enc Tryz.prog W base sp held n 9 ((cs.drop 3).take (Tryz.prog.cellsOf 9)) = some y3 := hf 3 _ rfl
  have h4 : DataW.trod enc Tryz.prog W base sp held n 3 ((cs.drop 4).take (Tryz.prog.cellsOf 3)) = some y4 := hf 4 _ rfl
  rw [c3] at h0 h1 h2 h4
  rw [c9] at h3
  obtain ⟨n0, e0, _⟩ := DataW.trod_int Tryz.underlying3 h0
  obtain ⟨n1, e1, _⟩ := DataW.trod_int Tryz.underlying3 h1
  obtain ⟨n2, e2, _⟩ := DataW.trod_int Tryz.underlying3 h2
  obtain ⟨s3, e3, _, hs⟩ := DataW.trod_string Tryz.underlying9 h3
  obtain ⟨n4, e4, _⟩ := DataW.trod_int Tryz.underlying3 h4
  refine ⟨⟨n0, n1, n2, s3, n4⟩, ?_, by unfold maxLen at hs; exact Nat.le_trans hs (by decide)⟩
  have g0 := cut1 e0; have g1 := cut1 e1; have g2 := cut1 e2; have g3 := cut1 e3; have g4 := cut1 e4
  match cs, hl with
  | [a0, a1, a2, a3, a4], _ =>
   simp at g0 g1 g2 g3 g4
   rw [g0, g1, g2, g3, g4]; rfl
theorem choose_lt3 {α : Type} [Inhabited α] {n : Nat} {p : Nat → α → Prop} (h : ∀ i, i < n → ∃ s, p i s) : ∃ f : Nat → α, ∀ i, i < n → p i (f i) := by
 classical
 exact ⟨fun i => if hi : i < n then (h i hi).choose else default, fun i hi => by simp only [dif_pos hi]; exact (h i hi).choose_spec⟩
theorem chgs_of {fuel : Nat} {cs : List Value} {x : DataW H × List MemPlace} (h : DataW.trod enc Tryz.prog W base sp held fuel 47 cs = some x) :
 ∃ (l : List Chg) (A : Option Addr) (n c : Nat), cs = [.slice A n c] ∧ l.length = n ∧ n ≤ maxLen ∧ RdC W A l ∧ ∀ d ∈ l, d.name.size ≤ 9223372036854775807 := by
 rcases DataW.trod_slice Tryz.underlying47 h with ⟨rfl, _⟩ | ⟨a, n, c, elems, rest, m, _, rfl, _, hb, hle, hmax, hlen, hel, _⟩
 ·
  exact ⟨[], none, 0, 0, rfl, rfl, Nat.zero_le _, fun k hk => absurd hk (by simp), fun _ h => absurd h List.not_mem_nil⟩
 ·
  by_cases hz : n = 0
  ·
   subst hz
   exact ⟨[], some a, 0, c, rfl, rfl, Nat.zero_le _, fun k hk => absurd hk (by simp), fun _ h => absurd h List.not_mem_nil⟩
  have sp0 : a.spot = none := by
   have he := hel 0 (by omega)
   rw [c144, List.getElem?_eq_getElem (by omega)] at he
   obtain ⟨cs', h1, h2⟩ := Option.bind_eq_some_iff.1 he
   obtain ⟨d, rfl, _⟩ := chg_of h2
   have h3 := (World.cells?_some h1).2.2 0 (by omega)
   have e : ((a.add (0 * 5)).add 0) = a := by cases a; simp [Addr.add]
   rw [e] at h3
   obtain ⟨b, off, s⟩ := a
   exact cell_spot (b := b) (o := off) (v := .int .i64 d.side) h3
  obtain ⟨b, off, s⟩ := a
  obtain rfl : s = none := sp0
  have each : ∀ i, i < n → ∃ d : Chg, (∀ j, j < 5 → W.cell? ⟨b, off + i * 5 + j, none⟩ = d.val[j]?) ∧ d.name.size ≤ 9223372036854775807 := fun i hi => by
   have he := hel i hi
   rw [c144, List.getElem?_eq_getElem (by omega)] at he
   obtain ⟨cs', h1, h2⟩ := Option.bind_eq_some_iff.1 he
   obtain ⟨d, rfl, hs⟩ := chg_of h2
   refine ⟨d, fun j hj => ?_, hs⟩
   have := (World.cells?_some h1).2.2 j hj
   rw [Addr.add_mid, Addr.add_mid, Array.getElem?_toList] at this
   exact this
  haveI : Inhabited Chg := ⟨⟨0, 0, 0, .empty, 0⟩⟩
  obtain ⟨f, hf⟩ := choose_lt3 each
  refine ⟨(List.range n).map f, some ⟨b, off, none⟩, n, c, rfl, by simp, by omega, fun k hk => ?_, fun d hd => ?_⟩
  ·
   have hk' : k < n := by simpa using hk
   refine ⟨b, off, rfl, fun j hj => ?_⟩
   rw [(hf k hk').1 j hj]
   simp [List.getD, hk']
  ·
   obtain ⟨k, hk, rfl⟩ := List.mem_map.1 hd
   exact (hf k (List.mem_range.1 hk)).2
theorem open_game {v : Value} {d : DataW H} {ps : List MemPlace} {r : Reach} {b0 : Nat} (hv : Value.okWide Tryz.prog W r b0 49 v) (h : DataW.Trod enc Tryz.prog W base sp held 49 v d ps) :
 ∃ (t : Tms) (l : List Chg) (A : Option Addr) (n c : Nat), v = .agg (t.cells ++ [Value.slice A n c]).toArray ∧ t.ok ∧ l.length = n ∧ n ≤ maxLen ∧ RdC W A l ∧ (∀ s ∈ t.l0.b ++ t.l1.b, s.size ≤ 9223372036854775807) ∧ ∀ d ∈ l, d.name.size ≤ 9223372036854775807 := by
 obtain ⟨cs, rfl⟩ := agg_of Tryz.underlying49 hv
 obtain ⟨fuel, hf⟩ := h
 have hf' : DataW.trod enc Tryz.prog W base sp held fuel 49 cs.toList = some (d, ps) := hf
 obtain ⟨y0, y1, n, _, hl, h0, h1⟩ := trod_struct2 Tryz.underlying49 hf'
 simp only [c46, c47, c49] at h0 h1 hl
 obtain ⟨t, ht, e0, hs⟩ := tms_of h0
 obtain ⟨l, A, n, c, e1, hn, hmax, hr, hsl⟩ := chgs_of h1
 refine ⟨t, l, A, n, c, ?_, ht, hn, hmax, hr, hs, hsl⟩
 rw [← e0, ← e1, List.drop_zero]
 have e2 : (cs.toList.drop 36).take 1 = cs.toList.drop 36 := List.take_of_length_le (by rw [List.length_drop]; omega)
 rw [e2, List.take_append_drop, Array.toArray_toList]
theorem agg_arr {t : TypeId} {m : Nat} {e : TypeId} {v : Value} {r : Reach} {b0 : Nat} (hu : Tryz.prog.underlying t = some (.array m e)) (h : Value.okWide Tryz.prog W r b0 t v) : ∃ cs : Array Value, v = .agg cs := by
 unfold Value.okWide at h
 rw [hu] at h
 obtain ⟨cs, e, _⟩ := h
 exact ⟨cs, e⟩
theorem c72 : Tryz.prog.cellsOf 72 = 3 := by kernel_rfl
theorem open_arr3 {v : Value} {d : DataW H} {ps : List MemPlace} {r : Reach} {b0 : Nat} (hv : Value.okWide Tryz.prog W r b0 72 v) (h : DataW.Trod enc Tryz.prog W base sp held 72 v d ps) : ∃ x0 x1 x2 : Int, v = .agg #[.int .i64 x0, .int .i64 x1, .int .i64 x2] := by
 obtain ⟨cs, rfl⟩ := agg_arr Tryz.underlying72 hv
 obtain ⟨fuel, hf⟩ := h
 have hf' : DataW.trod enc Tryz.prog W base sp held fuel 72 cs.toList = some (d, ps) := hf
 obtain ⟨xs, m, _, _, hl, hn, hel⟩ := DataW.trod_array Tryz.underlying72 hf'
 rw [c72] at hl
 obtain ⟨b, hb⟩ := ints_of cs.toList fun i v hv => by
  have hi : i < 3 := by have := (List.getElem?_eq_some_iff.1 hv).1; omega
  have he := hel i hi
  rw [c3, Nat.mul_one, List.getElem?_eq_getElem (by omega)] at he
  obtain ⟨s, e, _⟩ := DataW.trod_int Tryz.underlying3 he
  exact ⟨s, take_one cs.toList i v _ hv e⟩
 have hb3 : b.length = 3 := by rw [hb, List.length_map] at hl; exact hl
 match b, hb3 with
 | [x0, x1, x2], _ => exact ⟨x0, x1, x2, by rw [← Array.toArray_toList (xs := cs), hb]; rfl⟩
end
end Go.Proofs.YtmagppkclnebjaaGreatDoor
