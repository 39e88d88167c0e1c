/- LineupSteady: at every game and byte the law returns true, and the input reads as it did; the tied card. Conditions: the listed variables of Go's library hold what their text lays. -/
import Derived.Test.YtmagppkclnebjaaGreatDoorQf
import Derived.Test.YtmagppkclnebjaaGreatDoorW3
set_option linter.unusedVariables false
set_option linter.unusedSimpArgs false
namespace Go.Proofs.YtmagppkclnebjaaGreatDoor
open Go.ChangeShapes Go.WideShapes Go.ChangeAt Go.RowKit
open L
set_option maxRecDepth 100000

theorem steady_lifted (os : Os) (started : os.Started) (H : Type) (enc : TypeId × Value → H) :
 ReturnsInHanded {} Tryz.checked os 10 .any (fun w args => (Rows.lineupSteadySpec.pre enc Tryz.prog Tryz.f10 [] false w args ∧ laidMetH Tryz.prog laidL w) ∧ sizedMet enc Tryz.prog Tryz.f10 (OpenSpec.ofChange Rows.lineupSteadySpec) false w args)
  (Rows.lineupSteadySpec.post enc Tryz.prog Tryz.f10 false true false false) := by
 refine returnsInHanded_of_calls ownKnobN started (by kernel_rfl)
  (ChangeSpec.witness_shaped (enc := enc) (C := Tryz.checked) (os := os) (X := fun w _ => laidMetH Tryz.prog laidL w) false (wit os) #[.agg (L.Tms.zero.cells ++ [Value.slice none 0 0]).toArray, .int .u8 0] 8 (wit_os os)
   (World.shaped_of_ZipB (by kernel_rfl) (by kernel_rfl)) (by kernel_rfl) (by kernel_rfl) (by kernel_rfl) (wit_met os _)) ?_
 intro w tape i _ hsh _ hok hpre _
 obtain ⟨_, _, _, fn', hfn', _, _, _, _, hval0⟩ := hok
 have e : fn' = Tryz.f10 := Option.some.inj (hfn'.symm.trans Tryz.func10)
 subst e
 obtain ⟨⟨⟨ds, gs, before, hw, _⟩, hx⟩, _⟩ := hpre
 have hE : Env (w.forCall tape i) := env_of (hx.of_heap (by rfl)) hsh
 have hW : DataW.Whole enc Tryz.prog Tryz.f10.params.toList Rows.lineupSteadySpec.vars false (w.forCall tape i) i.args.toList ds gs before := DataW.Whole.of_heap (w' := w.forCall tape i) (by rfl) hw
 have hval : ∀ (j : Nat) t v, Tryz.f10.params[j]? = some t → i.args[j]? = some v → Value.okWide Tryz.prog (w.forCall tape i) .any w.heap.size t v := hval0
 clear hval0 hw hx hsh hfn'
 generalize i.args = args at hW hval ⊢
 generalize w.forCall tape i = W at hE hW hval ⊢
 have hW' := hW
 obtain ⟨p, q, hA0, hV, rfl, _, _⟩ := hW
 have hA : DataW.TrodAll enc Tryz.prog W 0 (fun _ => true) true Tryz.f10.params.toList args.toList ds p := hA0
 rw [Tryz.params10] at hA hval
 obtain ⟨v0, v1, d0, d1, p0, p1, rfl, rfl, rfl, h0, h1⟩ := trodAll_two hA
 obtain ⟨rfl, rfl⟩ := trodVars_none hV
 obtain ⟨t, l, A, n, c, rfl, ht, hn, hmax, hr, hsz, hszl⟩ := open_game (hval 0 49 v0 rfl rfl) h0
 obtain ⟨slot, rfl, rfl, rfl, hwf⟩ := open_int Tryz.underlying5 (hval 1 5 v1 rfl rfl) h1
 obtain ⟨b, rfl, hb5⟩ : ∃ k : Nat, slot = (k : Int) ∧ k < 256 := ⟨slot.toNat, by have := u8_bounds hwf; omega, by have := u8_bounds hwf; omega⟩
 refine (stdLaw_any t ht l A n c hn b hb5 hsz hszl W hr hE _ rfl).mono fun e W' ⟨he, hb⟩ => ?_
 subst he
 exact ChangeSpec.post_blind (law_post rfl rfl rfl (by kernel_rfl) hA0 hW' (fun x hx => List.mem_append_left _ hx) hb)
theorem steady_row : Rows.LineupSteadySaid :=
 OpenClaim.holds_of_wide 10 Tryz.f10 rfl rfl rfl rfl rfl rfl rfl ⟨rfl, rfl, rfl, rfl, rfl⟩ rfl rfl rfl rfl rfl (by kernel_rfl) Tryz.func10 (by kernel_rfl)
  (of_decide_eq_true (by kernel_rfl)) (by unfold Func.isWrapper; first | (rw [if_pos (by decide +kernel)]; kernel_rfl) | (rw [if_neg (by decide +kernel)]; exact ⟨rfl, rfl⟩))
  (fun os started H enc _ => steady_lifted os started H enc)
/-- THE TIED CARD of dugoutlaw03.LineupSteady -/
theorem steady_card : Rows.LineupSteadyCardSaid :=
 Claim7.holds_tied_plain_at .later [] [.data, .data, .data, .data, .sentinel, .sentinel, .pinned] true (true, "f7a13b5d108b3077dbcdc25e70d23d5a4fa9bfd3f6ff4856ff2303fbbb26a29f") true
  steady_row (fun _ h => by cases h) (by kernel_rfl) (fun _ h => by cases h) lineupSteady_row_tie rfl ⟨rfl, rfl⟩ (by kernel_rfl) rfl
  (fun f fn hf hfn => by
   obtain rfl : f = 10 := Option.some.inj ((show Tryz.prog.funcNamed "dugout/dugoutlaw03.LineupSteady" = some 10 by kernel_rfl).symm.trans hf) |>.symm
   obtain rfl : fn = Tryz.f10 := (Option.some.inj (Tryz.func10.symm.trans hfn)).symm
   exact ⟨by kernel_rfl, fun j t ht => by
    rw [Tryz.params10] at ht
    have hm : t ∈ [49, 5] := by simpa using Array.mem_of_getElem? ht
    have hall : ([49, 5].all fun u => !Tryz.prog.wantsStandIn u) = true := by kernel_rfl
    exact (show Tryz.prog.wantsStandIn t = false by simpa using List.all_eq_true.1 hall t hm)⟩)
  (by kernel_rfl)
#print axioms steady_card
end Go.Proofs.YtmagppkclnebjaaGreatDoor
