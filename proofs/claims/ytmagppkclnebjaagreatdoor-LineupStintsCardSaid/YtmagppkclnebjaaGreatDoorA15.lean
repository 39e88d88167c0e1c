/- slices.DeleteFunc at the stints, with the closure of Pitchers: what is no pitcher's stint of the side goes. -/
import Derived.Test.YtmagppkclnebjaaGreatDoorR3
import Derived.OwnWalk
import Derived.Laws.OwnMore
set_option linter.unusedVariables false
set_option linter.unusedSimpArgs false
set_option linter.unusedSimpArgs false
namespace Go.Proofs.YtmagppkclnebjaaGreatDoor
open Go.RowKit
open L

def noSti : Sti := ⟨0, 0, 0, .empty, 0, 0⟩
/-- slice address A holds these stints -/
def RdS (w : World) (A : Option Addr) (S : List Sti) : Prop :=
  ∀ k, k < S.length → ∃ b off, A = some ⟨b, off, none⟩ ∧ ∀ j, j < 6 → w.cell? ⟨b, off + k * 6 + j, none⟩ = (S.getD k noSti).val[j]?
theorem RdS.below {w w' : World} {A : Option Addr} {S : List Sti} (h : RdS w A S) (hb : Below w.heap.size w w') : RdS w' A S := fun k hk => by
  obtain ⟨b, off, e, hc⟩ := h k hk
  refine ⟨b, off, e, fun j hj => ?_⟩
  have h0 := hc 0 (by omega)
  have hlt : b < w.heap.size := World.block_lt_of_cell? w ⟨b, off + k * 6 + 0, none⟩ (u := .int .i64 (S.getD k noSti).side) (by rw [h0]; rfl)
  rw [hb.cell (p := ⟨b, off + k * 6 + j, none⟩) hlt]
  exact hc j hj
theorem flatS_at : ∀ (S : List Sti) (i r : Nat), i < S.length → r < 6 → (flatS S)[i * 6 + r]? = (S.getD i noSti).val[r]?
  | [], i, _, h, _ => by simp at h
  | s :: R, 0, r, _, hr => by
    have e : flatS (s :: R) = s.val.toList ++ flatS R := by simp [flatS]
    rw [e, Nat.zero_mul, Nat.zero_add, List.getElem?_append_left (by simpa [L.Sti.val] using hr)]
    simp
  | s :: R, i + 1, r, h, hr => by
    have e : flatS (s :: R) = s.val.toList ++ flatS R := by simp [flatS]
    have := flatS_at R i r (by simpa using h) hr
    rw [e, List.getElem?_append_right (by simp [L.Sti.val]; omega)]
    simp only [L.Sti.val, List.length_cons, List.length_nil] at this ⊢
    rw [show (i + 1) * 6 + r - (0 + 1 + 1 + 1 + 1 + 1 + 1) = i * 6 + r by omega, this]
    simp
theorem RdS.of_own {w : World} {base n c : Nat} {A : Option Addr} {S : List Sti} (h : w.ownsRow base 107 6 (.slice A n c) n (flatS S)) : RdS w A S := fun k hk => by
  have hn : n = S.length := by have := h.1; rw [flatS_len] at this; omega
  rcases h.2 with ⟨_, h0⟩ | ⟨g, cap, cur, e, _⟩
  · omega
  · injection e with e1 e2 e3
    subst e1; subst e3
    refine ⟨g, 0, rfl, fun j hj => ?_⟩
    rw [Nat.zero_add, h.cellAt _ (by omega), flatS_at S k j hk hj]
theorem RdS.of_slk {w : World} {n c : Nat} {A : Option Addr} {S : List Sti} (h : SlK 6 w (.slice A n c) n (flatS S)) : RdS w A S := fun k hk => by
  obtain ⟨h1, A', c', e, hr⟩ := h
  injection e with e1 e2 e3
  subst e1
  rw [flatS_len] at h1
  obtain ⟨b, off, e, hc⟩ := hr.at_ (k := k * 6) (by rw [flatS_len]; omega)
  subst e
  refine ⟨b, off, rfl, fun j hj => ?_⟩
  rcases hr with h0 | ⟨b', off', e', hc'⟩
  · have : (flatS S).length = 0 := by rw [h0]; rfl
    rw [flatS_len] at this; omega
  · injection e' with e'
    injection e' with e1 e2
    subst e1; subst e2
    rw [Nat.add_assoc, hc' _ (by rw [flatS_len]; omega), flatS_at S k j hk hj]

/-- the closure of Pitchers: is a stint to go? -/
def goes (side : Int) (s : Sti) : Bool := s.side != side || s.pos != 1
theorem goes_any (s : Sti) (bx : Nat) (side : Int) (w : World) (h : Bk w bx 3 #[.int .i64 side]) :
    Calls Tryz.prog 100 #[.agg #[.int .i64 s.side, .int .i64 s.slot, .int .i64 s.pos, .string s.name, .int .i64 s.fr, .int .i64 s.to], .pointer (some ⟨bx, 0, none⟩)] w fun x w' => x = .returned (.bool (goes side s)) ∧ Below w.heap.size w w' := by
  have hb := Lib.hid (bt_new w (.cells #[.int .i64 s.side, .int .i64 s.slot, .int .i64 s.pos, .string s.name, .int .i64 s.fr, .int .i64 s.to] 107))
  have c0 : (w.alloc (.cells #[.int .i64 s.side, .int .i64 s.slot, .int .i64 s.pos, .string s.name, .int .i64 s.fr, .int .i64 s.to] 107)).cell? ⟨bx, 0, none⟩ = some (.int .i64 side) := by rw [(h.alloc _).cell]; rfl
  clear h
  by_cases h1 : s.side = side
  · have q1 : (s.side != side) = false := by simpa using h1
    clear h1
    go_enter Tryz.func100, Tryz.ntmps100
    go_wp2
    go_ret
    exact ⟨ret_bool (by simp [goes, q1]), hb.out⟩
  · have q1 : (s.side != side) = true := by simpa using h1
    clear h1
    go_enter Tryz.func100, Tryz.ntmps100
    go_wp2
    go_ret
    exact ⟨ret_bool (by simp [goes, q1]), hb.out⟩

set_option maxHeartbeats 2000000 in
theorem indexSti_any (side : Int) (bx : Nat) (S : List Sti) (A : Option Addr) (n c : Nat) (w : World) (hn : S.length = n) (hle : n ≤ 100000) (h : RdS w A S) (hbx : Bk w bx 3 #[.int .i64 side]) :
    Calls Tryz.prog 133 #[.slice A n c, .func (.func 100) #[] #[.pointer (some ⟨bx, 0, none⟩)]] w fun x w' => x = .returned (.int .i64 (idxF (goes side) S)) ∧ Below w.heap.size w w' := by
  have Hn := Lib.hid hn; have H := Lib.hid h; have Hbx := Lib.hid hbx
  clear hn h hbx
  go_enter Tryz.func133, Tryz.ntmps133
  go_wp2
  go_loopw [8] (fun i wr => ∃ k : Nat, k ≤ n ∧ i = .int .i64 k ∧ Below w.heap.size w wr ∧ ∀ j, j < k → goes side (S.getD j noSti) = false) (fun i _ => n - (intOf i).toNat)
  case atStart => exact ⟨0, Nat.zero_le _, rfl, Below.refl _ _, by intro j hj; omega⟩
  case round =>
    obtain ⟨k, hk, rfl, hb, hj⟩ := hrel
    have Hb := Lib.hid hb; have Hj := Lib.hid hj; clear hb hj
    by_cases hlt : k < n
    · obtain ⟨b, off, rfl, hc⟩ := (H.out.below Hb.out) k (by rw [Hn.out]; exact hlt)
      generalize he : S.getD k noSti = e at hc
      have He := Lib.hid he; clear he
      have c0 : wr.cell? ⟨b, off + k * 6, none⟩ = some (.int .i64 e.side) := hc 0 (by omega)
      have c1 : wr.cell? ⟨b, off + k * 6 + 1, none⟩ = some (.int .i64 e.slot) := hc 1 (by omega)
      have c2 : wr.cell? ⟨b, off + k * 6 + 2, none⟩ = some (.int .i64 e.pos) := hc 2 (by omega)
      have c3 : wr.cell? ⟨b, off + k * 6 + 3, none⟩ = some (.string e.name) := hc 3 (by omega)
      have c4 : wr.cell? ⟨b, off + k * 6 + 4, none⟩ = some (.int .i64 e.fr) := hc 4 (by omega)
      have c5 : wr.cell? ⟨b, off + k * 6 + 5, none⟩ = some (.int .i64 e.to) := hc 5 (by omega)
      clear hc
      have hcl := goes_any e bx side wr (Hbx.out.below Hb.out Hbx.out.lt)
      generalize hq : goes side e = q at hcl
      have Hq := Lib.hid hq; have Hcl := Lib.hid hcl; clear hq hcl
      cases q with
      | true =>
        go_wp2_with (go_at_call 100; refine Hcl.out.mono ?_; rintro e w2 ⟨rfl, hb2⟩)
        go_ret
        exact ⟨ret_int (idxF_hit _ _ noSti k (by rw [Hn.out]; exact hlt) Hj.out (by rw [He.out, Hq.out])).symm, bt_trans Hb.out hb2⟩
      | false =>
        go_wp2_with (go_at_call 100; refine Hcl.out.mono ?_; rintro e w2 ⟨rfl, hb2⟩)
        go_roundw
        case rel =>
          refine ⟨k + 1, by omega, by go_num, bt_trans Hb.out hb2, fun j hj => ?_⟩
          rcases Nat.lt_succ_iff_lt_or_eq.1 hj with h1 | rfl
          · exact Hj.out j h1
          · rw [He.out, Hq.out]
        case measure => simp [intOf]; omega
    · go_wp2
      go_ret
      exact ⟨ret_int (idxF_miss _ _ noSti (fun j hj => Hj.out j (by have := Hn.out; omega))).symm, Hb.out⟩
end Go.Proofs.YtmagppkclnebjaaGreatDoor
