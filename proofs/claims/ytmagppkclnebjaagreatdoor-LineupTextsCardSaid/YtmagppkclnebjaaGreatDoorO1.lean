/- The reference: Text and Number. -/
import Derived.Test.YtmagppkclnebjaaGreatDoorB10
import Derived.Test.YtmagppkclnebjaaGreatDoorQp
import Derived.IntWalk
set_option linter.unusedVariables false
set_option linter.unusedSimpArgs false
set_option linter.unusedSimpArgs false
set_option linter.unusedVariables false
namespace Go.Proofs.YtmagppkclnebjaaGreatDoor
open Go.RowKit
open L

theorem dig_piece (d : Nat) (h : d < 10) : (ByteArray.extract { data := #[48, 49, 50, 51, 52, 53, 54, 55, 56, 57] } d (d + 1)).data.toList = [UInt8.ofNat (48 + d)] := by
 have := (by decide : ∀ d : Fin 10, (ByteArray.extract { data := #[48, 49, 50, 51, 52, 53, 54, 55, 56, 57] } d.val (d.val + 1)).data.toList = [UInt8.ofNat (48 + d.val)])
 exact this ⟨d, h⟩
theorem app_data (a b : ByteArray) : (a ++ b).data.toList = a.data.toList ++ b.data.toList := by rw [ByteArray.data_append]; simp
def decRest (m : Nat) : List UInt8 := if m = 0 then [] else Go.Lib.decDigits m
theorem decRest_step (m : Nat) (h : m ≠ 0) : decRest (m / 10) ++ [UInt8.ofNat (48 + m % 10)] = decRest m := by
 unfold decRest
 rw [if_neg h]
 by_cases h10 : m < 10
 ·
  rw [if_pos (by omega), L.dec_small h10, Nat.mod_eq_of_lt h10]; rfl
 ·
  rw [if_neg (by omega), L.dec_big h10]
theorem decRest_first (m : Nat) : decRest (m / 10) ++ [UInt8.ofNat (48 + m % 10)] = Go.Lib.decDigits m := by
 by_cases h : m = 0
 ·
  subst h; rw [L.dec_small (by omega)]; rfl
 ·
  rw [decRest_step m h]; unfold decRest; rw [if_neg h]
set_option maxHeartbeats 2000000 in
theorem refText_any (n : Nat) (hn : n < 1000000000) (w : World) : Calls Tryz.prog 86 #[.int .i64 (n : Int)] w fun x w' => x = .returned (.string (decS n)) ∧ w = w' := by
 obtain ⟨d, hd, hdn⟩ : ∃ d : Nat, d < 10 ∧ n % 10 = d := ⟨n % 10, by omega, rfl⟩
 have q1 : (n : Int).tmod 10 = (d : Int) := by rw [Int.tmod_eq_emod_of_nonneg (by omega)]; omega
 have q2 : (n : Int).tdiv 10 = ((n / 10 : Nat) : Int) := by rw [Int.tdiv_eq_ediv_of_nonneg (by omega)]; omega
 have hp := dig_piece d hd
 have Hfirst : Hid (decRest (n / 10) ++ [UInt8.ofNat (48 + d)] = Go.Lib.decDigits n) := by show _ = _; rw [← hdn]; exact decRest_first n
 have Hp := Lib.hid hp
 clear hp hdn
 go_enter Tryz.func86, Tryz.ntmps86
 go_wp2
 go_loop [0, 4] (fun a s => ∃ (m : Nat) (x : Str), m < 1000000000 ∧ a = .int .i64 (m : Int) ∧ s = .string x ∧ decRest m ++ x.data.toList = Go.Lib.decDigits n) (fun a _ => (intOf a).toNat)
 case atStart => exact ⟨n / 10, _, by omega, rfl, rfl, by rw [Hp.out]; exact Hfirst.out⟩
 case round =>
  clear q1 q2 Hp Hfirst hd
  obtain ⟨m, x, hm, rfl, rfl, hx⟩ := hrel
  have Hx := Lib.hid hx
  clear hx
  by_cases h0 : m = 0
  ·
   subst h0
   have Hr : Hid (x = decS n) := by
    show _ = _
    have h1 := Hx.out
    unfold decRest at h1
    rw [if_pos rfl, List.nil_append] at h1
    unfold decS
    rw [← Go.Lib.mk_data x, h1, Int.toNat_natCast]
   go_wp2
   go_ret
   exact ⟨ret_str (by rw [Hr.out]), rfl⟩
  ·
   obtain ⟨d, hd, hdn⟩ : ∃ d : Nat, d < 10 ∧ m % 10 = d := ⟨m % 10, by omega, rfl⟩
   have q1 : (m : Int).tmod 10 = (d : Int) := by rw [Int.tmod_eq_emod_of_nonneg (by omega)]; omega
   have q2 : (m : Int).tdiv 10 = ((m / 10 : Nat) : Int) := by rw [Int.tdiv_eq_ediv_of_nonneg (by omega)]; omega
   have q3 : (0 : Int) < (m : Int) := by omega
   have Hp := Lib.hid (dig_piece d hd)
   have Hstep : Hid (decRest (m / 10) ++ [UInt8.ofNat (48 + d)] = decRest m) := by show _ = _; rw [← hdn]; exact decRest_step m h0
   have hq : ¬ 9223372036854775807 < min (d + 1) 10 - d + ByteArray.size x := by
    have h1 := congrArg List.length Hx.out
    have h2 := L.dec_len9.2 hn
    rw [List.length_append, ← Go.Lib.size_eq] at h1
    omega
   clear hdn
   go_wp2
   go_round
   case rel => exact ⟨m / 10, _, by omega, rfl, rfl, by rw [app_data, Hp.out, ← List.append_assoc, Hstep.out]; exact Hx.out⟩
   case measure => simp [intOf]; omega

theorem digI_isDig (c : UInt8) : digI c.toNat = isDig c := by
 unfold digI isDig
 rw [Bool.eq_iff_iff]
 simp only [decide_eq_true_eq]
 omega
theorem valL_take (l : List UInt8) (k : Nat) (hk : k < l.length) : valL (l.take (k + 1)) = 10 * valL (l.take k) + (l[k].toNat - 48) := by
 rw [List.take_succ_eq_append_getElem hk, valL_snoc]
theorem numR_bad1 {l : List UInt8} (h : l = [] ∨ 9 < l.length ∨ (1 < l.length ∧ l.headD 0 = 48)) : numR l = -1 := by unfold numR; rw [if_pos h]
theorem numR_bad2 {l : List UInt8} (h : l.all isDig = false) : numR l = -1 := by
 unfold numR
 split
 ·
  rfl
 ·
  rw [if_neg (by rw [h]; simp)]
set_option maxHeartbeats 4000000 in
theorem refNumber_any (s : Str) (hs : s.size ≤ 100000) (w : World) : Calls Tryz.prog 88 #[.string s] w fun x w' => x = .returned (.int .i64 (numR s.data.toList)) ∧ w = w' := by
 have hlen : s.data.toList.length = s.size := by rw [← Lib.size_eq]
 by_cases h0 : s.size = 0
 ·
  have E := Lib.hid (numR_bad1 (l := s.data.toList) (.inl (List.length_eq_zero_iff.1 (by omega))))
  have h1 : ((s.size : Int) == 0) = true := by simpa using h0
  clear h0 hlen
  go_enter Tryz.func88, Tryz.ntmps88
  go_wp2
  go_ret
  exact ⟨ret_int (by rw [E.out]), rfl⟩
 have h1 : ((s.size : Int) == 0) = false := by simpa using h0
 have hpos : 0 < s.size := by omega
 by_cases h9 : 9 < s.size
 ·
  have E := Lib.hid (numR_bad1 (l := s.data.toList) (.inr (.inl (by omega))))
  clear h0 hlen
  go_enter Tryz.func88, Tryz.ntmps88
  go_wp2
  go_ret
  exact ⟨ret_int (by rw [E.out]), rfl⟩
 have hhd : s.data.toList.headD 0 = s[0] := by
  have : 0 < s.data.toList.length := by omega
  rw [List.headD_eq_head?_getD, List.head?_eq_getElem?, List.getElem?_eq_getElem this]; rfl
 by_cases hz : 1 < s.size ∧ s[0].toNat = 48
 ·
  have E := Lib.hid (numR_bad1 (l := s.data.toList) (.inr (.inr ⟨by omega, by rw [hhd]; exact UInt8.toNat_inj.1 hz.2⟩)))
  have g48 : ((s[0].toNat : Int) == 48) = true := by simp; omega
  have g1 := hz.1
  clear h0 hlen hhd hz
  go_enter Tryz.func88, Tryz.ntmps88
  go_wp2
  go_ret
  exact ⟨ret_int (by rw [E.out]), rfl⟩
 have hnb : ¬ (s.data.toList = [] ∨ 9 < s.data.toList.length ∨ (1 < s.data.toList.length ∧ s.data.toList.headD 0 = 48)) := by
  rintro (h | h | ⟨h, h'⟩)
  ·
   rw [h] at hlen; simp at hlen; omega
  ·
   omega
  ·
   exact hz ⟨by omega, by rw [hhd] at h'; rw [h']; rfl⟩
 have Hlen := Lib.hid hlen
 have Hnb := Lib.hid hnb
 clear hnb hhd hlen
 have key : ∀ g : Prop, (1 < s.size ∧ ((s[0].toNat : Int) == 48) = false → g) → (¬ 1 < s.size → g) → g := fun g k1 k2 => by
  by_cases h : 1 < s.size
  ·
   exact k1 ⟨h, by simp; intro e; exact hz ⟨h, by omega⟩⟩
  ·
   exact k2 h
 have main : ∀ hg : (1 < s.size ∧ ((s[0].toNat : Int) == 48) = false) ∨ ¬ 1 < s.size, Calls Tryz.prog 88 #[.string s] w fun x w' => x = .returned (.int .i64 (numR s.data.toList)) ∧ w = w' := by
  intro hg
  clear key hz h0
  rcases hg with ⟨g1, g48⟩ | g1
  all_goals
   go_enter Tryz.func88, Tryz.ntmps88
   go_wp2
   go_loop [3, 4] (fun a i => ∃ k : Nat, k ≤ s.size ∧ i = .int .i64 k ∧ a = .int .i64 (valL (s.data.toList.take k) : Nat) ∧ (s.data.toList.take k).all isDig = true ∧ valL (s.data.toList.take k) < 10 ^ k) (fun _ i => s.size - (intOf i).toNat)
   case atStart => exact ⟨0, Nat.zero_le _, rfl, rfl, rfl, by simp [valL]⟩
   case round =>
    try clear g48
    try clear g1
    obtain ⟨k, hk, rfl, rfl, hall, hv⟩ := hrel
    have Hall := Lib.hid hall; clear hall
    by_cases hlt : k < s.size
    ·
     have hl : k < s.data.toList.length := by rw [Hlen.out]; exact hlt
     have hst := all_take_succ s.data.toList isDig k hl
     have hfl := all_false_of s.data.toList isDig k hl
     have hvt := valL_take s.data.toList k hl
     have hgb : s.data.toList[k] = s[k] := rfl
     rw [hgb] at hst hfl hvt
     have h8 : valL (s.data.toList.take k) < 1000000000 := Nat.lt_of_lt_of_le hv (Nat.le_trans (Nat.pow_le_pow_right (by omega) (show k ≤ 9 by omega)) (by decide))
     have cd := refDigit_any (s[k].toNat : Int) (by omega) (by have := s[k].toNat_lt; omega) w
     have hdi : digI (s[k].toNat : Int) = isDig s[k] := digI_isDig _
     rw [hdi] at cd
     generalize hV : valL (s.data.toList.take k) = v at hv h8 hvt
     have HV := Lib.hid hV
     clear hV hgb hdi
     have Hst := Lib.hid hst; have Hfl := Lib.hid hfl; have Hvt := Lib.hid hvt; have Hv := Lib.hid hv
     clear hst hfl hvt hv
     cases hD : isDig s[k]
     ·
      rw [hD] at cd
      have Cd := Lib.hid cd
      have E := Lib.hid (numR_bad2 (Hfl.out hD))
      clear cd hD Hst Hfl Hvt
      go_wp2_with (go_at_call 108; refine Cd.out.mono ?_; rintro e w' ⟨rfl, rfl⟩)
      go_ret
      exact ⟨ret_int (by rw [E.out]), rfl⟩
     ·
      rw [hD] at cd
      have Cd := Lib.hid cd
      have hb : 48 ≤ s[k].toNat ∧ s[k].toNat ≤ 57 := by unfold isDig at hD; simpa using hD
      have HD := Lib.hid hD
      clear cd hD Hfl
      obtain ⟨b, hbe⟩ : ∃ b : Nat, s[k].toNat = b := ⟨_, rfl⟩
      have Hbe := Lib.hid hbe
      have hb1 := hb.1; have hb2 := hb.2
      clear hb hbe
      go_wp2_with (go_at_call 108; refine Cd.out.mono ?_; rintro e w' ⟨rfl, rfl⟩)
      go_round
      case rel =>
       refine ⟨k + 1, by omega, by go_num, ?_, by rw [Hst.out, Hall.out, HD.out]; rfl, ?_⟩
       ·
        rw [Hvt.out]; congr 1; omega
       ·
        rw [Hvt.out, Nat.pow_succ]; have := Hv.out; omega
      case measure => simp [intOf]; omega
    ·
     obtain rfl : k = s.size := by omega
     have hfin : s.data.toList.take s.size = s.data.toList := List.take_of_length_le (by rw [Hlen.out]; exact Nat.le_refl _)
     rw [hfin] at Hall hv
     have E : Hid (numR s.data.toList = (valL s.data.toList : Nat)) := by show _ = _; unfold numR; rw [if_neg Hnb.out, if_pos Hall.out]
     rw [hfin]
     clear hfin hv
     go_wp2
     go_ret
     exact ⟨ret_int (by rw [E.out]), rfl⟩
 exact key _ (fun h => main (.inl h)) (fun h => main (.inr h))
end Go.Proofs.YtmagppkclnebjaaGreatDoor
