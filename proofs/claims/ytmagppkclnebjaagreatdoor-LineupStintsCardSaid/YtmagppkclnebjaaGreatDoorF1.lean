/- The arguments of this seat's rows laid open: a lineup, a list of strings; the witness world. -/
import Derived.Test.YtmagppkclnebjaaGreatDoorF0
set_option linter.unusedVariables false
set_option linter.unusedSimpArgs false
namespace Go.Proofs.YtmagppkclnebjaaGreatDoor
open Go.ChangeShapes Go.WideShapes Go.ChangeAt Go.RowKit
open L
set_option maxRecDepth 100000

theorem strs_of : ∀ (cs : List Value), (∀ (i : Nat) v, cs[i]? = some v → ∃ s, v = Value.string s) → ∃ b : List Str, cs = b.map Value.string
  | [], _ => ⟨[], rfl⟩
  | c :: cs, h => by
    obtain ⟨s, rfl⟩ := h 0 c rfl
    obtain ⟨b, rfl⟩ := strs_of cs fun i v hv => h (i + 1) v (by simpa using hv)
    exact ⟨s :: b, rfl⟩
theorem ints_of : ∀ (cs : List Value), (∀ (i : Nat) v, cs[i]? = some v → ∃ n, v = Value.int .i64 n) → ∃ b : List Int, cs = b.map (Value.int .i64)
  | [], _ => ⟨[], rfl⟩
  | c :: cs, h => by
    obtain ⟨s, rfl⟩ := h 0 c rfl
    obtain ⟨b, rfl⟩ := ints_of cs fun i v hv => h (i + 1) v (by simpa using hv)
    exact ⟨s :: b, rfl⟩
theorem take_one {α : Type} (l : List α) (i : Nat) (v x : α) (h : l[i]? = some v) (e : (l.drop i).take 1 = [x]) : v = x := by
  obtain ⟨hi, rfl⟩ := List.getElem?_eq_some_iff.1 h
  rw [List.drop_eq_getElem_cons hi, List.take_succ_cons] at e
  injection e
section
variable {H : Type} {enc : TypeId × Value → H} {W : World} {base : Nat} {sp : Nat → Bool} {held : Bool}
theorem c9 : Tryz.prog.cellsOf 9 = 1 := by kernel_rfl
theorem c3 : Tryz.prog.cellsOf 3 = 1 := by kernel_rfl
theorem c22 : Tryz.prog.cellsOf 22 = 9 := by kernel_rfl
theorem c23 : Tryz.prog.cellsOf 23 = 9 := by kernel_rfl
theorem c25 : Tryz.prog.cellsOf 25 = 18 := by kernel_rfl
theorem c46 : Tryz.prog.cellsOf 46 = 36 := by kernel_rfl
theorem c49 : Tryz.prog.cellsOf 49 = 37 := by kernel_rfl
theorem c47 : Tryz.prog.cellsOf 47 = 1 := by kernel_rfl
theorem c144 : Tryz.prog.cellsOf 144 = 5 := by kernel_rfl
theorem arrS {fuel : Nat} {cs : List Value} {x : DataW H × List MemPlace} (h : DataW.trod enc Tryz.prog W base sp held fuel 22 cs = some x) : ∃ b : List Str, b.length = 9 ∧ cs = b.map Value.string := by
  obtain ⟨xs, m, _, _, hl, hn, hel⟩ := DataW.trod_array Tryz.underlying22 h
  rw [c22] at hl
  obtain ⟨b, hb⟩ := strs_of cs fun i v hv => by
    have hi : i < 9 := by have := (List.getElem?_eq_some_iff.1 hv).1; omega
    have he := hel i hi
    rw [c9, Nat.mul_one, List.getElem?_eq_getElem (by omega)] at he
    obtain ⟨s, e, _⟩ := DataW.trod_string Tryz.underlying9 he
    exact ⟨s, take_one cs i v _ hv e⟩
  refine ⟨b, ?_, hb⟩
  rw [hb, List.length_map] at hl; exact hl
theorem arrI {fuel : Nat} {cs : List Value} {x : DataW H × List MemPlace} (h : DataW.trod enc Tryz.prog W base sp held fuel 23 cs = some x) : ∃ b : List Int, b.length = 9 ∧ cs = b.map (Value.int .i64) := by
  obtain ⟨xs, m, _, _, hl, hn, hel⟩ := DataW.trod_array Tryz.underlying23 h
  rw [c23] at hl
  obtain ⟨b, hb⟩ := ints_of cs fun i v hv => by
    have hi : i < 9 := by have := (List.getElem?_eq_some_iff.1 hv).1; omega
    have he := hel i hi
    rw [c3, Nat.mul_one, List.getElem?_eq_getElem (by omega)] at he
    obtain ⟨s, e, _⟩ := DataW.trod_int Tryz.underlying3 he
    exact ⟨s, take_one cs i v _ hv e⟩
  refine ⟨b, ?_, hb⟩
  rw [hb, List.length_map] at hl; exact hl
theorem lu_of {fuel : Nat} {cs : List Value} {x : DataW H × List MemPlace} (h : DataW.trod enc Tryz.prog W base sp held fuel 25 cs = some x) : ∃ o : LU, o.ok ∧ cs = o.cells := by
  obtain ⟨y0, y1, n, _, hl, h0, h1⟩ := trod_struct2 Tryz.underlying25 h
  rw [c25] at hl
  obtain ⟨b, hb, e0⟩ := arrS h0
  obtain ⟨p, hp, e1⟩ := arrI h1
  refine ⟨⟨b, p⟩, ⟨hb, hp⟩, ?_⟩
  simp only [c22, c23] at e0 e1
  show cs = b.map .string ++ p.map (.int .i64)
  rw [← e0, ← e1, List.drop_zero]
  have e2 : (cs.drop 9).take 9 = cs.drop 9 := List.take_of_length_le (by rw [List.length_drop]; omega)
  rw [e2, List.take_append_drop]
theorem agg_of {t : TypeId} {fs : Array Field} {v : Value} {r : Reach} {b0 : Nat} (hu : Tryz.prog.underlying t = some (.struct fs)) (h : Value.okWide Tryz.prog W r b0 t v) : ∃ cs : Array Value, v = .agg cs := by
  unfold Value.okWide at h
  rw [hu] at h
  obtain ⟨cs, e, _⟩ := h
  exact ⟨cs, e⟩
theorem open_lu {v : Value} {d : DataW H} {ps : List MemPlace} {r : Reach} {b0 : Nat} (hv : Value.okWide Tryz.prog W r b0 25 v) (h : DataW.Trod enc Tryz.prog W base sp held 25 v d ps) : ∃ o : LU, o.ok ∧ v = .agg o.cells.toArray := by
  obtain ⟨cs, rfl⟩ := agg_of Tryz.underlying25 hv
  obtain ⟨fuel, hf⟩ := h
  obtain ⟨o, ho, e⟩ := lu_of hf
  refine ⟨o, ho, ?_⟩
  have : cs.toList = o.cells := e
  rw [← this]
theorem okWide_slice {t e : TypeId} {v : Value} {r : Reach} {b0 : Nat} (hu : Tryz.prog.underlying t = some (.slice e)) (h : Value.okWide Tryz.prog W r b0 t v) : ∃ A n c, v = .slice A n c := by
  unfold Value.okWide at h
  rw [hu] at h
  simp only [Cell.okWide, Cell.ok, hu] at h
  cases v <;> first | exact ⟨_, _, _, rfl⟩ | simp at h
theorem open_came {v : Value} {d : DataW H} {ps : List MemPlace} {r : Reach} {b0 : Nat} (hv : Value.okWide Tryz.prog W r b0 26 v) (h : DataW.Trod enc Tryz.prog W base sp held 26 v d ps) :
    ∃ (came : List Str) (C : Option Addr) (n c : Nat), v = .slice C n c ∧ came.length = n ∧ n ≤ maxLen ∧ Rd W C (came.map Value.string) ∧ (C = none → n = 0 ∧ c = 0) := by
  obtain ⟨A, n, c, rfl⟩ := okWide_slice Tryz.underlying26 hv
  obtain ⟨fuel, hf⟩ := h
  rcases Go.Deep.open_strs Tryz.underlying26 Tryz.underlying9 c9 hf with ⟨e, _⟩ | ⟨a, len, cap, m, Sx, e, _, hle, hmax, hm, _, hcell⟩
  · have e' : (Value.slice A n c) = .slice none 0 0 := by simpa [Value.cells] using e
    injection e' with e1 e2 e3
    subst e1; subst e2; subst e3
    exact ⟨[], none, 0, 0, rfl, rfl, Nat.zero_le _, .inl rfl, fun _ => ⟨rfl, rfl⟩⟩
  · have e' : (Value.slice A n c) = .slice (some a) len cap := by simpa [Value.cells] using e
    injection e' with e1 e2 e3
    subst e1; subst e2; subst e3
    have hnm : n ≤ m := by rw [hm]; split <;> omega
    refine ⟨(List.range n).map Sx, some a, n, c, rfl, by simp, by omega, ?_, fun h => by cases h⟩
    by_cases hz : n = 0
    · subst hz; exact .inl rfl
    · obtain ⟨b, off, s⟩ := a
      have hsp : s = none := by
        have := (hcell 0 (by omega)).1
        exact cell_spot (b := b) (o := off) (by
          cases s <;> simpa [Addr.add] using this)
      subst hsp
      refine .inr ⟨b, off, rfl, fun k hk => ?_⟩
      have hk' : k < n := by simpa using hk
      have := (hcell k (by omega)).1
      rw [Addr.add_mid] at this
      rw [this]; simp [hk']
end
noncomputable def wit (os : Os) : World := World.laidAll Tryz.prog os laidL
theorem wit_os (os : Os) : (wit os).os = os := World.laidAll_os _ _ _
theorem wit_met (os : Os) (args : Array Value) : laidMetH Tryz.prog laidL ((wit os).forCall (fun _ _ => 0) ⟨#[], args, []⟩).memory := by
  rw [MakeChecks.laidMetH_plain _ _ _ (by kernel_rfl)]; exact laidMet_laidAll _ (by kernel_rfl) (by kernel_rfl)
theorem laidOutN : laidOutB Tryz.prog = true := by kernel_rfl
section
variable {H : Type} {enc : TypeId × Value → H}
/-- what was there reads as it did where only new blocks came -/
theorem trodAll_below {P : Program} (hl : laidOutB P = true) {W W' : World} (hb : Below W.heap.size W W') : ∀ {ts : List TypeId} {vs : List Value} {ds : List (DataW H)} {ps : List MemPlace}, (ts.all fun t => P.readableRec t && decide (t < P.types.size)) = true →
    DataW.TrodAll enc P W 0 (fun _ => true) true ts vs ds ps → (∀ x ∈ ps, x.block < W.heap.size) → DataW.TrodAll enc P W' 0 (fun b => decide (b < W.heap.size)) true ts vs ds ps
  | [], vs, ds, ps, _, h, _ => by
    obtain ⟨rfl, rfl, rfl⟩ := trodAll_nil h
    exact trodAll_mk0
  | t :: ts, vs, ds, ps, ht, h, hlt => by
    obtain ⟨v, vs', d, ds', p, q, rfl, rfl, rfl, h1, h2⟩ := trodAll_cons h
    simp only [List.all_cons, Bool.and_eq_true, decide_eq_true_eq] at ht
    exact ⟨p, q, Below.trod hl ht.1.1 ht.1.2 h1 hb (fun x hx => hlt x (List.mem_append_left _ hx)), trodAll_below hl hb (by simpa using ht.2) h2 (fun x hx => hlt x (List.mem_append_right _ hx)), rfl⟩
/-- a law that returns true, and only makes new blocks, does what its row says -/
theorem law_post {f : Func} {s : ChangeSpec} {W W' : World} {args : Array Value} {ds gs : List (DataW H)} {before p : List MemPlace} (hres : f.resultTypes = #[4]) (hv : s.vars = [])
    (hfn : s.fn H (ds ++ gs) = { results := [.lit (.bool true)], args := ds }) (hts : (f.params.toList.all fun t => Tryz.prog.readableRec t && decide (t < Tryz.prog.types.size)) = true)
    (hA : DataW.TrodAll enc Tryz.prog W 0 (fun _ => true) true f.params.toList args.toList ds p)
    (hW : DataW.Whole enc Tryz.prog f.params.toList s.vars false W args.toList ds gs before) (hp : ∀ x ∈ p, x ∈ before) (hb : Below W.heap.size W W') :
    s.post enc Tryz.prog f false true false false W args (.bool true) W' := by
  have hlt : ∀ x ∈ p, x.block < W.heap.size := fun x hx => hW.lt x (hp x hx)
  refine ⟨ds, gs, before, [], p, [], hW, ?_, ?_, ?_, hb.frame _, fun h => by cases h⟩
  · rw [hres, hfn]; exact trodAll_mk1 (shut_bool Tryz.underlying4 _)
  · rw [hfn]; exact trodAll_below laidOutN hb hts hA hlt
  · rw [hfn, hv]; rfl
end
end Go.Proofs.YtmagppkclnebjaaGreatDoor
