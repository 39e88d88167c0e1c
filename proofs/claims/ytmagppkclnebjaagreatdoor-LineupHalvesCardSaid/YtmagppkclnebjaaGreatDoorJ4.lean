/- LineupHalves: at every game and pair of bytes the law returns true, and the input reads as it did; the tied card. Conditions: the listed variables of Go's library hold what their text lays. -/
import Derived.Test.YtmagppkclnebjaaGreatDoorQf
import Derived.Test.YtmagppkclnebjaaGreatDoorJ3
set_option linter.unusedVariables false
set_option linter.unusedSimpArgs false
namespace Go.Proofs.YtmagppkclnebjaaGreatDoor
open Go.ChangeShapes Go.WideShapes Go.ChangeAt Go.RowKit
open L
set_option maxRecDepth 100000

theorem c5u : Tryz.prog.cellsOf 5 = 1 := by kernel_rfl
theorem c117 : Tryz.prog.cellsOf 117 = 2 := by kernel_rfl
theorem open_u8two {H : Type} {enc : TypeId × Value → H} {W : World} {base : Nat} {sp : Nat → Bool} {held : Bool} {v : Value} {d : DataW H} {ps : List MemPlace} {r : Reach} {b0 : Nat} (hv : Value.okWide Tryz.prog W r b0 117 v) (h : DataW.Trod enc Tryz.prog W base sp held 117 v d ps) : ∃ x0 x1 : Nat, v = .agg #[.int .u8 x0, .int .u8 x1] ∧ x0 < 256 ∧ x1 < 256 := by
 obtain ⟨cs, rfl⟩ := agg_arr Tryz.underlying117 hv
 obtain ⟨fuel, hf⟩ := h
 have hf' : DataW.trod enc Tryz.prog W base sp held fuel 117 cs.toList = some (d, ps) := hf
 obtain ⟨xs, m, _, _, hl, hn, hel⟩ := DataW.trod_array Tryz.underlying117 hf'
 rw [c117] at hl
 have key : ∀ i v, i < 2 → cs.toList[i]? = some v → ∃ b : Nat, v = .int .u8 b ∧ b < 256 := fun i v hi hv => by
  have he := hel i hi
  rw [c5u, Nat.mul_one, List.getElem?_eq_getElem (by omega)] at he
  obtain ⟨s, e, _, hw⟩ := DataW.trod_int Tryz.underlying5 he
  have hw2 : 0 ≤ s ∧ s ≤ 255 := by
   unfold Lit.wf at hw
   simp only [Bool.and_eq_true, decide_eq_true_eq] at hw
   exact hw
  exact ⟨s.toNat, by rw [take_one cs.toList i v _ hv e]; congr 1; omega, by omega⟩
 have hl2 : cs.toList.length = 2 := hl
 match hcs : cs.toList, hl2 with
 | [y0, y1], _ =>
  obtain ⟨b0, rfl, h0⟩ := key 0 y0 (by omega) (by rw [hcs]; rfl)
  obtain ⟨b1, rfl, h1⟩ := key 1 y1 (by omega) (by rw [hcs]; rfl)
  exact ⟨b0, b1, by rw [← Array.toArray_toList (xs := cs), hcs], h0, h1⟩
theorem halves_lifted (os : Os) (started : os.Started) (H : Type) (enc : TypeId × Value → H) :
 ReturnsInHanded {} Tryz.checked os 12 .any (fun w args => (Rows.lineupHalvesSpec.pre enc Tryz.prog Tryz.f12 [] false w args ∧ laidMetH Tryz.prog laidL w) ∧ sizedMet enc Tryz.prog Tryz.f12 (OpenSpec.ofChange Rows.lineupHalvesSpec) false w args)
  (Rows.lineupHalvesSpec.post enc Tryz.prog Tryz.f12 false true false false) := by
 refine returnsInHanded_of_calls ownKnobN started (by kernel_rfl)
  (ChangeSpec.witness_shaped (enc := enc) (C := Tryz.checked) (os := os) (X := fun w _ => laidMetH Tryz.prog laidL w) false (wit os) #[.agg (L.Tms.zero.cells ++ [Value.slice none 0 0]).toArray, .agg #[.int .u8 0, .int .u8 0]] 8 (wit_os os)
   (World.shaped_of_ZipB (by kernel_rfl) (by kernel_rfl)) (by kernel_rfl) (by kernel_rfl) (by kernel_rfl) (wit_met os _)) ?_
 intro w tape i _ hsh _ hok hpre _
 obtain ⟨_, _, _, fn', hfn', _, _, _, _, hval0⟩ := hok
 have e : fn' = Tryz.f12 := Option.some.inj (hfn'.symm.trans Tryz.func12)
 subst e
 obtain ⟨⟨⟨ds, gs, before, hw, _⟩, hx⟩, _⟩ := hpre
 have hE : Env (w.forCall tape i) := env_of (hx.of_heap (by rfl)) hsh
 have hW : DataW.Whole enc Tryz.prog Tryz.f12.params.toList Rows.lineupHalvesSpec.vars false (w.forCall tape i) i.args.toList ds gs before := DataW.Whole.of_heap (w' := w.forCall tape i) (by rfl) hw
 have hval : ∀ (j : Nat) t v, Tryz.f12.params[j]? = some t → i.args[j]? = some v → Value.okWide Tryz.prog (w.forCall tape i) .any w.heap.size t v := hval0
 clear hval0 hw hx hsh hfn'
 generalize i.args = args at hW hval ⊢
 generalize w.forCall tape i = W at hE hW hval ⊢
 have hW' := hW
 obtain ⟨p, q, hA0, hV, rfl, _, _⟩ := hW
 have hA : DataW.TrodAll enc Tryz.prog W 0 (fun _ => true) true Tryz.f12.params.toList args.toList ds p := hA0
 rw [Tryz.params12] at hA hval
 obtain ⟨v0, v1, d0, d1, p0, p1, rfl, rfl, rfl, h0, h1⟩ := trodAll_two hA
 obtain ⟨rfl, rfl⟩ := trodVars_none hV
 obtain ⟨t, l, A, n, c, rfl, ht, hn, hmax, hr, hsz, hszl⟩ := open_game (hval 0 49 v0 rfl rfl) h0
 obtain ⟨b0, b1, rfl, hb0, hb1⟩ := open_u8two (hval 1 117 v1 rfl rfl) h1
 refine (hlvLaw_any t ht l A n c hn b0 b1 hb0 hb1 hsz hszl W hr hE _ rfl).mono fun e W' ⟨he, hb⟩ => ?_
 subst he
 exact ChangeSpec.post_blind (law_post rfl rfl rfl (by kernel_rfl) hA0 hW' (fun x hx => List.mem_append_left _ hx) hb)
theorem halves_row : Rows.LineupHalvesSaid :=
 OpenClaim.holds_of_wide 12 Tryz.f12 rfl rfl rfl rfl rfl rfl rfl ⟨rfl, rfl, rfl, rfl, rfl⟩ rfl rfl rfl rfl rfl (by kernel_rfl) Tryz.func12 (by kernel_rfl)
  (of_decide_eq_true (by kernel_rfl)) (by unfold Func.isWrapper; first | (rw [if_pos (by decide +kernel)]; kernel_rfl) | (rw [if_neg (by decide +kernel)]; exact ⟨rfl, rfl⟩))
  (fun os started H enc _ => halves_lifted os started H enc)
/-- THE TIED CARD of dugoutlaw03.LineupHalves -/
theorem halves_card : Rows.LineupHalvesCardSaid :=
 Claim7.holds_tied_plain_at .later [] [.data, .data, .data, .data, .sentinel, .sentinel, .pinned] true (true, "f7a13b5d108b3077dbcdc25e70d23d5a4fa9bfd3f6ff4856ff2303fbbb26a29f") true
  halves_row (fun _ h => by cases h) (by kernel_rfl) (fun _ h => by cases h) lineupHalves_row_tie rfl ⟨rfl, rfl⟩ (by kernel_rfl) rfl
  (fun f fn hf hfn => by
   obtain rfl : f = 12 := Option.some.inj ((show Tryz.prog.funcNamed "dugout/dugoutlaw03.LineupHalves" = some 12 by kernel_rfl).symm.trans hf) |>.symm
   obtain rfl : fn = Tryz.f12 := (Option.some.inj (Tryz.func12.symm.trans hfn)).symm
   exact ⟨by kernel_rfl, fun j t ht => by
    rw [Tryz.params12] at ht
    have hm : t ∈ [49, 117] := by simpa using Array.mem_of_getElem? ht
    have hall : ([49, 117].all fun u => !Tryz.prog.wantsStandIn u) = true := by kernel_rfl
    exact (show Tryz.prog.wantsStandIn t = false by simpa using List.all_eq_true.1 hall t hm)⟩)
  (by kernel_rfl)
#print axioms halves_card
end Go.Proofs.YtmagppkclnebjaaGreatDoor
