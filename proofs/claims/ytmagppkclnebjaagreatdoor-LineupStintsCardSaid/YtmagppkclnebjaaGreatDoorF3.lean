/- More arguments of this seat's rows laid open: a game (teams and changes). -/
import Derived.Test.YtmagppkclnebjaaGreatDoorF2
set_option linter.unusedVariables false
set_option linter.unusedSimpArgs false
namespace Go.Proofs.YtmagppkclnebjaaGreatDoor
open Go.ChangeShapes Go.WideShapes Go.ChangeAt Go.RowKit
open L
set_option maxRecDepth 100000
section
variable {H : Type} {enc : TypeId × Value → H} {W : World} {base : Nat} {sp : Nat → Bool} {held : Bool}

theorem tms_of {fuel : Nat} {cs : List Value} {x : DataW H × List MemPlace} (h : DataW.trod enc Tryz.prog W base sp held fuel 46 cs = some x) : ∃ t : Tms, t.ok ∧ cs = t.cells ∧ ∀ s ∈ t.l0.b ++ t.l1.b, s.size ≤ 9223372036854775807 := by
  obtain ⟨xs, m, _, _, hl, hn, hel⟩ := DataW.trod_array Tryz.underlying46 h
  rw [c46] at hl
  have h0 := hel 0 (by omega); have h1 := hel 1 (by omega)
  rw [c25, List.getElem?_eq_getElem (by omega)] at h0 h1
  obtain ⟨o0, ho0, e0, s0⟩ := luB_of h0
  obtain ⟨o1, ho1, e1, s1⟩ := luB_of h1
  refine ⟨⟨o0, o1⟩, ⟨ho0, ho1⟩, ?_, fun s hs => ?_⟩
  · show cs = o0.cells ++ o1.cells
    rw [← e0, ← e1, Nat.zero_mul, List.drop_zero, Nat.one_mul]
    have e2 : (cs.drop 18).take 18 = cs.drop 18 := List.take_of_length_le (by rw [List.length_drop]; omega)
    rw [e2, List.take_append_drop]
  · rcases List.mem_append.1 hs with h | h
    · exact s0 s h
    · exact s1 s h
theorem cut1 {cs : List Value} {k : Nat} {v : Value} (h : (cs.drop k).take 1 = [v]) : cs[k]? = some v := by
  have := congrArg (fun l => l[0]?) h
  simpa [List.getElem?_take, List.getElem?_drop] using this
theorem chg_of {fuel : Nat} {cs : List Value} {x : DataW H × List MemPlace} (h : DataW.trod enc Tryz.prog W base sp held fuel 144 cs = some x) : ∃ d : Chg, cs = d.val.toList ∧ d.name.size ≤ 9223372036854775807 := by
  obtain ⟨xs, n, _, _, hl, hlen, hf⟩ := DataW.trod_struct Tryz.underlying144 h
  rw [c144] at hl
  match xs, hlen with
  | [y0, y1, y2, y3, y4], _ =>
    have h0 : DataW.trod enc Tryz.prog W base sp held n 3 ((cs.drop 0).take (Tryz.prog.cellsOf 3)) = some y0 := hf 0 _ rfl
    have h1 : DataW.trod enc Tryz.prog W base sp held n 3 ((cs.drop 1).take (Tryz.prog.cellsOf 3)) = some y1 := hf 1 _ rfl
    have h2 : DataW.trod enc Tryz.prog W base sp held n 3 ((cs.drop 2).take (Tryz.prog.cellsOf 3)) = some y2 := hf 2 _ rfl
    have h3 : DataW.trod enc Tryz.prog W base sp held n 9 ((cs.drop 3).take (Tryz.prog.cellsOf 9)) = some y3 := hf 3 _ rfl
    have h4 : DataW.trod enc Tryz.prog W base sp held n 3 ((cs.drop 4).take (Tryz.prog.cellsOf 3)) = some y4 := hf 4 _ rfl
    rw [c3] at h0 h1 h2 h4
    rw [c9] at h3
    obtain ⟨n0, e0, _⟩ := DataW.trod_int Tryz.underlying3 h0
    obtain ⟨n1, e1, _⟩ := DataW.trod_int Tryz.underlying3 h1
    obtain ⟨n2, e2, _⟩ := DataW.trod_int Tryz.underlying3 h2
    obtain ⟨s3, e3, _, hs⟩ := DataW.trod_string Tryz.underlying9 h3
    obtain ⟨n4, e4, _⟩ := DataW.trod_int Tryz.underlying3 h4
    refine ⟨⟨n0, n1, n2, s3, n4⟩, ?_, by unfold maxLen at hs; exact Nat.le_trans hs (by decide)⟩
    have g0 := cut1 e0; have g1 := cut1 e1; have g2 := cut1 e2; have g3 := cut1 e3; have g4 := cut1 e4
    match cs, hl with
    | [a0, a1, a2, a3, a4], _ =>
      simp at g0 g1 g2 g3 g4
      rw [g0, g1, g2, g3, g4]; rfl
theorem choose_lt3 {α : Type} [Inhabited α] {n : Nat} {p : Nat → α → Prop} (h : ∀ i, i < n → ∃ s, p i s) : ∃ f : Nat → α, ∀ i, i < n → p i (f i) := by
  classical
  exact ⟨fun i => if hi : i < n then (h i hi).choose else default, fun i hi => by simp only [dif_pos hi]; exact (h i hi).choose_spec⟩
theorem chgs_of {fuel : Nat} {cs : List Value} {x : DataW H × List MemPlace} (h : DataW.trod enc Tryz.prog W base sp held fuel 47 cs = some x) :
    ∃ (l : List Chg) (A : Option Addr) (n c : Nat), cs = [.slice A n c] ∧ l.length = n ∧ n ≤ maxLen ∧ RdC W A l ∧ ∀ d ∈ l, d.name.size ≤ 9223372036854775807 := by
  rcases DataW.trod_slice Tryz.underlying47 h with ⟨rfl, _⟩ | ⟨a, n, c, elems, rest, m, _, rfl, _, hb, hle, hmax, hlen, hel, _⟩
  · exact ⟨[], none, 0, 0, rfl, rfl, Nat.zero_le _, fun k hk => absurd hk (by simp), fun _ h => absurd h List.not_mem_nil⟩
  · by_cases hz : n = 0
    · subst hz
      exact ⟨[], some a, 0, c, rfl, rfl, Nat.zero_le _, fun k hk => absurd hk (by simp), fun _ h => absurd h List.not_mem_nil⟩
    have sp0 : a.spot = none := by
      have he := hel 0 (by omega)
      rw [c144, List.getElem?_eq_getElem (by omega)] at he
      obtain ⟨cs', h1, h2⟩ := Option.bind_eq_some_iff.1 he
      obtain ⟨d, rfl, _⟩ := chg_of h2
      have h3 := (World.cells?_some h1).2.2 0 (by omega)
      have e : ((a.add (0 * 5)).add 0) = a := by cases a; simp [Addr.add]
      rw [e] at h3
      obtain ⟨b, off, s⟩ := a
      exact cell_spot (b := b) (o := off) (v := .int .i64 d.side) h3
    obtain ⟨b, off, s⟩ := a
    obtain rfl : s = none := sp0
    have each : ∀ i, i < n → ∃ d : Chg, (∀ j, j < 5 → W.cell? ⟨b, off + i * 5 + j, none⟩ = d.val[j]?) ∧ d.name.size ≤ 9223372036854775807 := fun i hi => by
      have he := hel i hi
      rw [c144, List.getElem?_eq_getElem (by omega)] at he
      obtain ⟨cs', h1, h2⟩ := Option.bind_eq_some_iff.1 he
      obtain ⟨d, rfl, hs⟩ := chg_of h2
      refine ⟨d, fun j hj => ?_, hs⟩
      have := (World.cells?_some h1).2.2 j hj
      rw [Addr.add_mid, Addr.add_mid, Array.getElem?_toList] at this
      exact this
    haveI : Inhabited Chg := ⟨⟨0, 0, 0, .empty, 0⟩⟩
    obtain ⟨f, hf⟩ := choose_lt3 each
    refine ⟨(List.range n).map f, some ⟨b, off, none⟩, n, c, rfl, by simp, by omega, fun k hk => ?_, fun d hd => ?_⟩
    · have hk' : k < n := by simpa using hk
      refine ⟨b, off, rfl, fun j hj => ?_⟩
      rw [(hf k hk').1 j hj]
      simp [List.getD, hk']
    · obtain ⟨k, hk, rfl⟩ := List.mem_map.1 hd
      exact (hf k (List.mem_range.1 hk)).2
theorem open_game {v : Value} {d : DataW H} {ps : List MemPlace} {r : Reach} {b0 : Nat} (hv : Value.okWide Tryz.prog W r b0 49 v) (h : DataW.Trod enc Tryz.prog W base sp held 49 v d ps) :
    ∃ (t : Tms) (l : List Chg) (A : Option Addr) (n c : Nat), v = .agg (t.cells ++ [Value.slice A n c]).toArray ∧ t.ok ∧ l.length = n ∧ n ≤ maxLen ∧ RdC W A l ∧ (∀ s ∈ t.l0.b ++ t.l1.b, s.size ≤ 9223372036854775807) ∧ ∀ d ∈ l, d.name.size ≤ 9223372036854775807 := by
  obtain ⟨cs, rfl⟩ := agg_of Tryz.underlying49 hv
  obtain ⟨fuel, hf⟩ := h
  have hf' : DataW.trod enc Tryz.prog W base sp held fuel 49 cs.toList = some (d, ps) := hf
  obtain ⟨y0, y1, n, _, hl, h0, h1⟩ := trod_struct2 Tryz.underlying49 hf'
  simp only [c46, c47, c49] at h0 h1 hl
  obtain ⟨t, ht, e0, hs⟩ := tms_of h0
  obtain ⟨l, A, n, c, e1, hn, hmax, hr, hsl⟩ := chgs_of h1
  refine ⟨t, l, A, n, c, ?_, ht, hn, hmax, hr, hs, hsl⟩
  rw [← e0, ← e1, List.drop_zero]
  have e2 : (cs.toList.drop 36).take 1 = cs.toList.drop 36 := List.take_of_length_le (by rw [List.length_drop]; omega)
  rw [e2, List.take_append_drop, Array.toArray_toList]
theorem agg_arr {t : TypeId} {m : Nat} {e : TypeId} {v : Value} {r : Reach} {b0 : Nat} (hu : Tryz.prog.underlying t = some (.array m e)) (h : Value.okWide Tryz.prog W r b0 t v) : ∃ cs : Array Value, v = .agg cs := by
  unfold Value.okWide at h
  rw [hu] at h
  obtain ⟨cs, e, _⟩ := h
  exact ⟨cs, e⟩
theorem c72 : Tryz.prog.cellsOf 72 = 3 := by kernel_rfl
theorem open_arr3 {v : Value} {d : DataW H} {ps : List MemPlace} {r : Reach} {b0 : Nat} (hv : Value.okWide Tryz.prog W r b0 72 v) (h : DataW.Trod enc Tryz.prog W base sp held 72 v d ps) : ∃ x0 x1 x2 : Int, v = .agg #[.int .i64 x0, .int .i64 x1, .int .i64 x2] := by
  obtain ⟨cs, rfl⟩ := agg_arr Tryz.underlying72 hv
  obtain ⟨fuel, hf⟩ := h
  have hf' : DataW.trod enc Tryz.prog W base sp held fuel 72 cs.toList = some (d, ps) := hf
  obtain ⟨xs, m, _, _, hl, hn, hel⟩ := DataW.trod_array Tryz.underlying72 hf'
  rw [c72] at hl
  obtain ⟨b, hb⟩ := ints_of cs.toList fun i v hv => by
    have hi : i < 3 := by have := (List.getElem?_eq_some_iff.1 hv).1; omega
    have he := hel i hi
    rw [c3, Nat.mul_one, List.getElem?_eq_getElem (by omega)] at he
    obtain ⟨s, e, _⟩ := DataW.trod_int Tryz.underlying3 he
    exact ⟨s, take_one cs.toList i v _ hv e⟩
  have hb3 : b.length = 3 := by rw [hb, List.length_map] at hl; exact hl
  match b, hb3 with
  | [x0, x1, x2], _ => exact ⟨x0, x1, x2, by rw [← Array.toArray_toList (xs := cs), hb]; rfl⟩
end
end Go.Proofs.YtmagppkclnebjaaGreatDoor
