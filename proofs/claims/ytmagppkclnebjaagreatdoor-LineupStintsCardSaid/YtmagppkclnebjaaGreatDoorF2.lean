/- More arguments of this seat's rows laid open: a lineup whose names have their bounds, a list of bytes. -/
import Derived.Test.YtmagppkclnebjaaGreatDoorF1
import Derived.ChangeSlices
set_option linter.unusedVariables false
set_option linter.unusedSimpArgs false
namespace Go.Proofs.YtmagppkclnebjaaGreatDoor
open Go.ChangeShapes Go.WideShapes Go.ChangeAt Go.RowKit
open L
set_option maxRecDepth 100000

theorem strsB_of : ∀ (cs : List Value), (∀ (i : Nat) v, cs[i]? = some v → ∃ s, v = Value.string s ∧ s.size ≤ 9223372036854775807) → ∃ b : List Str, cs = b.map Value.string ∧ ∀ s ∈ b, s.size ≤ 9223372036854775807
  | [], _ => ⟨[], rfl, fun _ h => absurd h (List.not_mem_nil)⟩
  | c :: cs, h => by
    obtain ⟨s, rfl, hs⟩ := h 0 c rfl
    obtain ⟨b, rfl, hb⟩ := strsB_of cs fun i v hv => h (i + 1) v (by simpa using hv)
    refine ⟨s :: b, rfl, fun x hx => ?_⟩
    rcases List.mem_cons.1 hx with rfl | hx
    · exact hs
    · exact hb x hx
section
variable {H : Type} {enc : TypeId × Value → H} {W : World} {base : Nat} {sp : Nat → Bool} {held : Bool}
theorem arrSB {fuel : Nat} {cs : List Value} {x : DataW H × List MemPlace} (h : DataW.trod enc Tryz.prog W base sp held fuel 22 cs = some x) : ∃ b : List Str, b.length = 9 ∧ cs = b.map Value.string ∧ ∀ s ∈ b, s.size ≤ 9223372036854775807 := by
  obtain ⟨xs, m, _, _, hl, hn, hel⟩ := DataW.trod_array Tryz.underlying22 h
  rw [c22] at hl
  obtain ⟨b, hb, hs⟩ := strsB_of cs fun i v hv => by
    have hi : i < 9 := by have := (List.getElem?_eq_some_iff.1 hv).1; omega
    have he := hel i hi
    rw [c9, Nat.mul_one, List.getElem?_eq_getElem (by omega)] at he
    obtain ⟨s, e, _, h3⟩ := DataW.trod_string Tryz.underlying9 he
    exact ⟨s, take_one cs i v _ hv e, h3⟩
  refine ⟨b, ?_, hb, hs⟩
  rw [hb, List.length_map] at hl; exact hl
theorem luB_of {fuel : Nat} {cs : List Value} {x : DataW H × List MemPlace} (h : DataW.trod enc Tryz.prog W base sp held fuel 25 cs = some x) : ∃ o : LU, o.ok ∧ cs = o.cells ∧ ∀ s ∈ o.b, s.size ≤ 9223372036854775807 := by
  obtain ⟨y0, y1, n, _, hl, h0, h1⟩ := trod_struct2 Tryz.underlying25 h
  rw [c25] at hl
  obtain ⟨b, hb, e0, hs⟩ := arrSB h0
  obtain ⟨p, hp, e1⟩ := arrI h1
  refine ⟨⟨b, p⟩, ⟨hb, hp⟩, ?_, hs⟩
  simp only [c22, c23] at e0 e1
  show cs = b.map .string ++ p.map (.int .i64)
  rw [← e0, ← e1, List.drop_zero]
  have e2 : (cs.drop 9).take 9 = cs.drop 9 := List.take_of_length_le (by rw [List.length_drop]; omega)
  rw [e2, List.take_append_drop]
theorem open_luB {v : Value} {d : DataW H} {ps : List MemPlace} {r : Reach} {b0 : Nat} (hv : Value.okWide Tryz.prog W r b0 25 v) (h : DataW.Trod enc Tryz.prog W base sp held 25 v d ps) : ∃ o : LU, o.ok ∧ v = .agg o.cells.toArray ∧ ∀ s ∈ o.b, s.size ≤ 9223372036854775807 := by
  obtain ⟨cs, rfl⟩ := agg_of Tryz.underlying25 hv
  obtain ⟨fuel, hf⟩ := h
  obtain ⟨o, ho, e, hs⟩ := luB_of hf
  refine ⟨o, ho, ?_, hs⟩
  have : cs.toList = o.cells := e
  rw [← this]
theorem c5B : Tryz.prog.cellsOf 5 = 1 := by kernel_rfl
theorem u8_bounds {n : Int} (h : (Lit.int .u8 n).wf = true) : 0 ≤ n ∧ n ≤ 255 := by
  simp [Lit.wf, IntKind.min, IntKind.max, IntKind.bits, IntKind.signed] at h
  omega
theorem open_u8s {v : Value} {d : DataW H} {ps : List MemPlace} {r : Reach} {b0 : Nat} (hv : Value.okWide Tryz.prog W r b0 68 v) (h : DataW.Trod enc Tryz.prog W base sp held 68 v d ps) :
    ∃ (cm : List Int) (C : Option Addr) (n c : Nat), v = .slice C n c ∧ cm.length = n ∧ n ≤ maxLen ∧ Rd W C (cm.map (.int .u8)) ∧ (C = none → n = 0 ∧ c = 0) ∧ ∀ x ∈ cm, 0 ≤ x ∧ x ≤ 255 := by
  obtain ⟨A, n, c, rfl⟩ := okWide_slice Tryz.underlying68 hv
  obtain ⟨fuel, hf⟩ := h
  rcases open_ints Tryz.underlying68 Tryz.underlying5 c5B hf with ⟨e, _⟩ | ⟨a, len, cap, zs, e, _, hle, hmax, hm, _, hcell, hwf⟩
  · have e' : (Value.slice A n c) = .slice none 0 0 := by simpa [Value.cells] using e
    injection e' with e1 e2 e3
    subst e1; subst e2; subst e3
    exact ⟨[], none, 0, 0, rfl, rfl, Nat.zero_le _, .inl rfl, fun _ => ⟨rfl, rfl⟩, fun _ h => absurd h (List.not_mem_nil)⟩
  · have e' : (Value.slice A n c) = .slice (some a) len cap := by simpa [Value.cells] using e
    injection e' with e1 e2 e3
    subst e1; subst e2; subst e3
    have hnm : n ≤ zs.length := by rw [hm]; split <;> omega
    refine ⟨zs.take n, some a, n, c, rfl, by rw [List.length_take]; omega, by omega, ?_, (fun h => by cases h), fun x hx => u8_bounds (hwf x (List.mem_of_mem_take hx))⟩
    by_cases hz : n = 0
    · subst hz; exact .inl rfl
    · obtain ⟨b, off, s⟩ := a
      have hsp : s = none := by
        have := hcell 0 (by omega)
        exact cell_spot (b := b) (o := off) (by
          cases s <;> simpa [Addr.add] using this)
      subst hsp
      refine .inr ⟨b, off, rfl, fun k hk => ?_⟩
      have hk' : k < n := by rw [List.length_map, List.length_take] at hk; omega
      have := hcell k (by omega)
      rw [Addr.add_mid] at this
      have hkz : k < zs.length := by omega
      rw [this, List.getElem?_map, List.getElem?_take, if_pos hk', List.getElem?_eq_getElem hkz]
      simp [List.getD, List.getElem?_eq_getElem hkz]
end
end Go.Proofs.YtmagppkclnebjaaGreatDoor
