/- LineupTexts: at every game and string the law returns true, and the input reads as it did; the tied card. Conditions: the listed variables of Go's library hold what their text lays. -/
import Derived.Test.YtmagppkclnebjaaGreatDoorQf
import Derived.Test.YtmagppkclnebjaaGreatDoorO8
set_option linter.unusedVariables false
set_option linter.unusedSimpArgs false
namespace Go.Proofs.YtmagppkclnebjaaGreatDoor
open Go.ChangeShapes Go.WideShapes Go.ChangeAt Go.RowKit
open L
set_option maxRecDepth 100000

theorem open_str9 {H : Type} {enc : TypeId × Value → H} {W : World} {base : Nat} {sp : Nat → Bool} {held : Bool} {v : Value} {d : DataW H} {ps : List MemPlace} {r : Reach} {b0 : Nat} (hv : Value.okWide Tryz.prog W r b0 9 v) (h : DataW.Trod enc Tryz.prog W base sp held 9 v d ps) : ∃ s : Str, v = .string s ∧ s.size ≤ 9223372036854775807 := by
 obtain ⟨s, rfl⟩ : ∃ s, v = .string s := by
  unfold Value.okWide at hv
  rw [Tryz.underlying9] at hv
  simp only [Cell.okWide, Cell.ok, Tryz.underlying9] at hv
  cases v <;> first | exact ⟨_, rfl⟩ | (exfalso; simp at hv)
 refine ⟨s, rfl, ?_⟩
 obtain ⟨fuel, hf⟩ := h
 have hf' : DataW.trod enc Tryz.prog W base sp held fuel 9 [.string s] = some (d, ps) := hf
 obtain ⟨s3, e3, _, hs⟩ := DataW.trod_string Tryz.underlying9 hf'
 simp at e3
 rw [e3]
 unfold maxLen at hs
 exact Nat.le_trans hs (by decide)
theorem texts_lifted (os : Os) (started : os.Started) (H : Type) (enc : TypeId × Value → H) :
 ReturnsInHanded {} Tryz.checked os 4 .any (fun w args => (Rows.lineupTextsSpec.pre enc Tryz.prog Tryz.f4 [] false w args ∧ laidMetH Tryz.prog laidL w) ∧ sizedMet enc Tryz.prog Tryz.f4 (OpenSpec.ofChange Rows.lineupTextsSpec) false w args)
  (Rows.lineupTextsSpec.post enc Tryz.prog Tryz.f4 false true false false) := by
 refine returnsInHanded_of_calls ownKnobN started (by kernel_rfl)
  (ChangeSpec.witness_shaped (enc := enc) (C := Tryz.checked) (os := os) (X := fun w _ => laidMetH Tryz.prog laidL w) false (wit os) #[.agg (L.Tms.zero.cells ++ [Value.slice none 0 0]).toArray, .string .empty] 8 (wit_os os)
   (World.shaped_of_ZipB (by kernel_rfl) (by kernel_rfl)) (by kernel_rfl) (by kernel_rfl) (by kernel_rfl) (wit_met os _)) ?_
 intro w tape i _ hsh _ hok hpre _
 obtain ⟨_, _, _, fn', hfn', _, _, _, _, hval0⟩ := hok
 have e : fn' = Tryz.f4 := Option.some.inj (hfn'.symm.trans Tryz.func4)
 subst e
 obtain ⟨⟨⟨ds, gs, before, hw, _⟩, hx⟩, _⟩ := hpre
 have hE : Env (w.forCall tape i) := env_of (hx.of_heap (by rfl)) hsh
 have hW : DataW.Whole enc Tryz.prog Tryz.f4.params.toList Rows.lineupTextsSpec.vars false (w.forCall tape i) i.args.toList ds gs before := DataW.Whole.of_heap (w' := w.forCall tape i) (by rfl) hw
 have hval : ∀ (j : Nat) t v, Tryz.f4.params[j]? = some t → i.args[j]? = some v → Value.okWide Tryz.prog (w.forCall tape i) .any w.heap.size t v := hval0
 clear hval0 hw hx hsh hfn'
 generalize i.args = args at hW hval ⊢
 generalize w.forCall tape i = W at hE hW hval ⊢
 have hW' := hW
 obtain ⟨p, q, hA0, hV, rfl, _, _⟩ := hW
 have hA : DataW.TrodAll enc Tryz.prog W 0 (fun _ => true) true Tryz.f4.params.toList args.toList ds p := hA0
 rw [Tryz.params4] at hA hval
 obtain ⟨v0, v1, d0, d1, p0, p1, rfl, rfl, rfl, h0, h1⟩ := trodAll_two hA
 obtain ⟨rfl, rfl⟩ := trodVars_none hV
 obtain ⟨t, l, A, n, c, rfl, ht, hn, hmax, hr, hsz, hszl⟩ := open_game (hval 0 49 v0 rfl rfl) h0
 obtain ⟨s, rfl, hns⟩ := open_str9 (hval 1 9 v1 rfl rfl) h1
 refine (txtLaw_any t ht l A n c hn s hsz hszl W hr hE _ rfl).mono fun e W' ⟨he, hb⟩ => ?_
 subst he
 exact ChangeSpec.post_blind (law_post rfl rfl rfl (by kernel_rfl) hA0 hW' (fun x hx => List.mem_append_left _ hx) hb)
theorem texts_row : Rows.LineupTextsSaid :=
 OpenClaim.holds_of_wide 4 Tryz.f4 rfl rfl rfl rfl rfl rfl rfl ⟨rfl, rfl, rfl, rfl, rfl⟩ rfl rfl rfl rfl rfl (by kernel_rfl) Tryz.func4 (by kernel_rfl)
  (of_decide_eq_true (by kernel_rfl)) (by unfold Func.isWrapper; first | (rw [if_pos (by decide +kernel)]; kernel_rfl) | (rw [if_neg (by decide +kernel)]; exact ⟨rfl, rfl⟩))
  (fun os started H enc _ => texts_lifted os started H enc)
/-- THE TIED CARD of dugoutlaw03.LineupTexts -/
theorem texts_card : Rows.LineupTextsCardSaid :=
 Claim7.holds_tied_plain_at .later [] [.data, .data, .data, .data, .sentinel, .sentinel, .pinned] true (true, "f7a13b5d108b3077dbcdc25e70d23d5a4fa9bfd3f6ff4856ff2303fbbb26a29f") true
  texts_row (fun _ h => by cases h) (by kernel_rfl) (fun _ h => by cases h) lineupTexts_row_tie rfl ⟨rfl, rfl⟩ (by kernel_rfl) rfl
  (fun f fn hf hfn => by
   obtain rfl : f = 4 := Option.some.inj ((show Tryz.prog.funcNamed "dugout/dugoutlaw03.LineupTexts" = some 4 by kernel_rfl).symm.trans hf) |>.symm
   obtain rfl : fn = Tryz.f4 := (Option.some.inj (Tryz.func4.symm.trans hfn)).symm
   exact ⟨by kernel_rfl, fun j t ht => by
    rw [Tryz.params4] at ht
    have hm : t ∈ [49, 9] := by simpa using Array.mem_of_getElem? ht
    have hall : ([49, 9].all fun u => !Tryz.prog.wantsStandIn u) = true := by kernel_rfl
    exact (show Tryz.prog.wantsStandIn t = false by simpa using List.all_eq_true.1 hall t hm)⟩)
  (by kernel_rfl)
#print axioms texts_card
end Go.Proofs.YtmagppkclnebjaaGreatDoor
