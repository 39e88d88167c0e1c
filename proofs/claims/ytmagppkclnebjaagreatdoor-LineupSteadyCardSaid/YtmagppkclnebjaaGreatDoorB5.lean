/- lineup.integer, and the reader of a line: its words and its integers. -/
import Derived.Test.YtmagppkclnebjaaGreatDoorQa
import Derived.Test.YtmagppkclnebjaaGreatDoorQ0
import Derived.Test.YtmagppkclnebjaaGreatDoorShB
import Derived.WalkSmall
import Derived.Lib.UnsafeStr
import Derived.Lib.AtoiAllCases
set_option linter.unusedVariables false
set_option linter.unusedSimpArgs false
set_option linter.unusedSimpArgs false
namespace Go.Proofs.YtmagppkclnebjaaGreatDoor
open Go.RowKit
open L

/-- what the package-level variables of the library hold: strconv's two errors, the table of powers, the limit of a search -/
structure Env (w : World) : Prop where
 len : ∃ m : Int, w.cell? ⟨1, 0, none⟩ = some (.int .i64 m)
 syn : ∃ t p, w.cell? ⟨4, 0, none⟩ = some (.iface t p)
 rng : ∃ t p, w.cell? ⟨5, 0, none⟩ = some (.iface t p)
 tab : Lib.TabIs Tryz.prog w "internal/strconv.uint64pow10" .u64 Lib.pow10Tab
 six : 5 < w.heap.size
theorem env_below {w w' : World} (h : Env w) (hb : Below w.heap.size w w') : Env w' := by
 obtain ⟨h1, h2, h3, h4, h5⟩ := h
 have e1 : w'.cell? ⟨1, 0, none⟩ = w.cell? ⟨1, 0, none⟩ := hb.cell (p := ⟨1, 0, none⟩) (by show 1 < _; omega)
 have e4 : w'.cell? ⟨4, 0, none⟩ = w.cell? ⟨4, 0, none⟩ := hb.cell (p := ⟨4, 0, none⟩) (by show 4 < _; omega)
 have e5 : w'.cell? ⟨5, 0, none⟩ = w.cell? ⟨5, 0, none⟩ := hb.cell (p := ⟨5, 0, none⟩) (by show 5 < _; omega)
 refine ⟨by rw [e1]; exact h1, by rw [e4]; exact h2, by rw [e5]; exact h3, ?_, by have := hb.size; omega⟩
 unfold Lib.TabIs at h4 ⊢
 exact var?_below hb (g := 0) (by kernel_rfl) (by omega) h4
theorem below_grow {w : World} (k : Nat) (os : Array Obj) : Below w.heap.size w (Go.Sort.grow (w.drewN k) os) :=
 ⟨rfl, rfl, rfl, by simp [Go.Sort.grow], fun k hk => by simp [Go.Sort.grow, Array.getElem?_append, hk]⟩
theorem below_bytes {w : World} (e : TypeId) (s : ByteArray) : Below w.heap.size w (Go.Lib.bytesWorld w e s) := by
 unfold Go.Lib.bytesWorld
 exact Go.Lib.below_freeze ((bt_drew (Below.refl _ w)).alloc (Nat.le_refl _) _) (p := ⟨w.heap.size, _, none⟩) (Nat.le_refl _) _
theorem grown_set' (w : World) (p : Addr) (v : Value) : w.grownBy (w.setCell p v) (some p.block) :=
 ⟨rfl, rfl, rfl, by simp, fun k hk hne => Below.heap_setCell w p v k (fun e => hne (by rw [e]))⟩

theorem itoa_any (n : Int) (h0 : 0 ≤ n) (h1 : n ≤ 9223372036854775807) (w : World) (h : Env w) : Calls Tryz.prog 71 #[.int .i64 n] w fun x w' => x = .returned (.string (decS n)) ∧ Below w.heap.size w w' := by
 refine (Tryz.strconv_Itoa n (by omega) h1 w h.tab).mono ?_
 rintro e w' ⟨rfl, k, os, rfl⟩
 refine ⟨?_, below_grow k os⟩
 unfold decS Go.Lib.itoa
 rw [if_neg (by omega)]

def NilErr (w : World) (x : Ending) : Prop := ∃ v ev, x = .returned (.tuple #[.int .i64 v, ev])
theorem atoi_ok (s : Str) (v : Int) (h : Go.Lib.atoiAll s.data.toList = .ok v) (hs : s.size ≤ 1000000) (w : World) : Calls Tryz.prog 150 #[.string s] w fun x w' => x = .returned (.tuple #[.int .i64 (atoiV s), .nilIface]) ∧ Below w.heap.size w w' := by
 refine (Tryz.strconv_Atoi_ok s (by omega) v h w).mono ?_
 rintro e w' ⟨rfl, hw⟩
 have e1 : atoiV s = v := by unfold atoiV; rw [h]
 refine ⟨by rw [e1], ?_⟩
 rcases hw with rfl | ⟨t, rfl⟩
 ·
  exact Below.refl _ _
 ·
  exact below_bytes _ _
theorem atoi_bad (s : Str) (h : ∀ v, Go.Lib.atoiAll s.data.toList ≠ .ok v) (hs : s.size ≤ 1000000) (w : World) (hE : Env w) : Calls Tryz.prog 150 #[.string s] w fun x w' => ∃ N, x = .returned (.tuple #[.int .i64 (atoiV s), .iface 260 (.pointer (some ⟨N, 0, none⟩))]) ∧ Below w.heap.size w w' := by
 cases hq : Go.Lib.atoiAll s.data.toList with
 | ok v => exact absurd hq (h v)
 | range =>
  obtain ⟨t, p, hc⟩ := hE.rng
  refine (Tryz.strconv_Atoi_range s (by omega) hq _ w hc (.inr ⟨t, p, rfl⟩)).mono ?_
  rintro e w' ⟨N, rfl, _, _, hb⟩
  exact ⟨N, by unfold atoiV; rw [hq], hb⟩
 | _ =>
  obtain ⟨t, p, hc⟩ := hE.syn
  refine (Tryz.strconv_Atoi_syntax s (by omega) (hq.trans rfl) _ w hc (.inr ⟨t, p, rfl⟩)).mono ?_
  rintro e w' ⟨N, rfl, _, _, hb⟩
  exact ⟨N, by unfold atoiV; rw [hq], hb⟩
theorem numOk_bad (s : Str) (h : ∀ v, Go.Lib.atoiAll s.data.toList ≠ .ok v) : numOk s = false := by
 unfold numOk
 cases hq : Go.Lib.atoiAll s.data.toList with
 | ok v => exact absurd hq (h v)
 | range => rfl
 | _ => rfl
theorem numOk_ok (s : Str) (v : Int) (h : Go.Lib.atoiAll s.data.toList = .ok v) : numOk s = (decide (0 ≤ v) && decide (s.size ≤ 9) && decide (decS v = s)) := by
 unfold numOk; rw [h]

set_option maxHeartbeats 1000000 in
theorem integer_any (s : Str) (hs : s.size ≤ 1000000) (w : World) (hE : Env w) : Calls Tryz.prog 128 #[.string s] w fun x w' => x = .returned (.tuple #[.int .i64 (atoiV s), .bool (numOk s)]) ∧ Below w.heap.size w w' := by
 by_cases hv : ∃ v, Go.Lib.atoiAll s.data.toList = .ok v
 ·
  obtain ⟨v, hv⟩ := hv
  have e1 : atoiV s = v := by unfold atoiV; rw [hv]
  have ha := atoi_ok s v hv hs w
  have hn := numOk_ok s v hv
  rw [e1] at ha ⊢
  have hv2 : v ≤ 9223372036854775807 := (Go.Lib.atoiAll_bounds hv).2
  have Ha := Lib.hid ha; have Hn := Lib.hid hn; have HE := Lib.hid hE
  clear hv e1 ha hn hE
  by_cases h0 : 0 ≤ v
  ·
   by_cases h9 : s.size ≤ 9
   ·
    by_cases hd : decS v = s
    ·
     have t1 := tl_eq hd
     have Hd := Lib.hid hd; clear hd
     go_enter Tryz.func128, Tryz.ntmps128
     go_wp2_with (first
      | (go_at_call 150; refine Ha.out.mono ?_; rintro e w1 ⟨rfl, hb1⟩)
      | (go_at_call 71; refine (itoa_any v h0 hv2 _ (env_below HE.out hb1)).mono ?_; rintro e w2 ⟨rfl, hb2⟩))
     go_ret2
     exact ⟨by rw [Hn.out, decide_eq_true h0, decide_eq_true h9, decide_eq_true Hd.out]; rfl, bt_trans hb1 hb2⟩
    ·
     have t1 := tl_ne hd
     have Hd := Lib.hid hd; clear hd
     go_enter Tryz.func128, Tryz.ntmps128
     go_wp2_with (first
      | (go_at_call 150; refine Ha.out.mono ?_; rintro e w1 ⟨rfl, hb1⟩)
      | (go_at_call 71; refine (itoa_any v h0 hv2 _ (env_below HE.out hb1)).mono ?_; rintro e w2 ⟨rfl, hb2⟩))
     go_ret2
     exact ⟨by rw [Hn.out, decide_eq_true h0, decide_eq_true h9, decide_eq_false Hd.out]; rfl, bt_trans hb1 hb2⟩
   ·
    have h9' : ¬ (s.size : Int) ≤ 9 := by omega
    go_enter Tryz.func128, Tryz.ntmps128
    go_wp2_with (go_at_call 150; refine Ha.out.mono ?_; rintro e w1 ⟨rfl, hb1⟩)
    go_ret2
    exact ⟨by rw [Hn.out, decide_eq_false h9]; simp, hb1⟩
  ·
   have hd0 : decide (0 ≤ v) = false := decide_eq_false h0
   have Hd0 := Lib.hid hd0; clear hd0
   go_enter Tryz.func128, Tryz.ntmps128
   go_wp2_with (go_at_call 150; refine Ha.out.mono ?_; rintro e w1 ⟨rfl, hb1⟩)
   go_ret2
   exact ⟨by rw [Hn.out, Hd0.out]; simp, hb1⟩
 ·
  have hv' : ∀ v, Go.Lib.atoiAll s.data.toList ≠ .ok v := fun v e => hv ⟨v, e⟩
  have Ha := Lib.hid (atoi_bad s hv' hs w hE)
  have hn := numOk_bad s hv'
  rw [hn]
  clear hv hv' hn hE
  go_enter Tryz.func128, Tryz.ntmps128
  go_wp2_with (go_at_call 150; refine Ha.out.mono ?_; rintro e w1 ⟨N, rfl, hb1⟩)
  go_ret2
  exact ⟨rfl, hb1⟩

/-- the reader in block g, its words in block bw -/
def RdrAt (W : World) (g bw : Nat) (ws0 : List Str) (r : Rdr) : Prop :=
 g ≠ bw ∧ Bk W bw 9 (ws0.map Value.string).toArray ∧ ∃ (A : Option Addr) (c : Nat), Bk W g 151 #[.slice A r.ws.length c, .bool r.bad] ∧ r.ws.length ≤ c ∧ (r.ws = [] ∨ ∃ j, A = some ⟨bw, j, none⟩ ∧ ws0.drop j = r.ws)
theorem RdrAt.below {W W' : World} {g bw : Nat} {ws0 : List Str} {r : Rdr} (h : RdrAt W g bw ws0 r) (hb : Below W.heap.size W W') : RdrAt W' g bw ws0 r := by
 obtain ⟨h1, h2, A, c, h3, h4⟩ := h
 exact ⟨h1, h2.below hb h2.lt, A, c, h3.below hb h3.lt, h4⟩
theorem RdrAt.lt {W : World} {g bw : Nat} {ws0 : List Str} {r : Rdr} (h : RdrAt W g bw ws0 r) : g < W.heap.size := by
 obtain ⟨_, _, A, c, h3, _⟩ := h
 exact h3.lt
theorem drop_succ_of {α : Type} {l : List α} {j : Nat} {x : α} {q : List α} (h : l.drop j = x :: q) : l.drop (j + 1) = q ∧ l[j]? = some x := by
 have hj : j < l.length := by
  rcases Nat.lt_or_ge j l.length with h1 | h1
  ·
   exact h1
  ·
   rw [List.drop_of_length_le h1] at h; cases h
 rw [List.drop_eq_getElem_cons hj] at h
 injection h with h1 h2
 exact ⟨h2, by rw [List.getElem?_eq_getElem hj, h1]⟩

set_option maxHeartbeats 1000000 in
theorem word_any (g bw : Nat) (ws0 : List Str) (r : Rdr) (w : World) (h : RdrAt w g bw ws0 r) (hle : r.ws.length ≤ 100000) :
 Calls Tryz.prog 80 #[.pointer (some ⟨g, 0, none⟩)] w fun x w' => x = .returned (.string r.word.1) ∧ RdrAt w' g bw ws0 r.word.2 ∧ w.grownBy w' (some g) := by
 obtain ⟨hne, hbw, A, c, hg, hcap, hsh⟩ := h
 obtain ⟨ws, bad⟩ := r
 have Hg := Lib.hid hg; have Hbw := Lib.hid hbw
 have c0 : w.cell? ⟨g, 0, none⟩ = some (.slice A ws.length c) := by rw [Hg.out.cell]; rfl
 have c1 : w.cell? ⟨g, 1, none⟩ = some (.bool bad) := by rw [Hg.out.cell]; rfl
 have f0 : w.frozen? ⟨g, 0, none⟩ = false := Hg.out.frozen _
 have f1 : w.frozen? ⟨g, 1, none⟩ = false := Hg.out.frozen _
 cases ws with
 | nil =>
  clear hg hbw hsh
  go_enter Tryz.func80, Tryz.ntmps80
  go_wp2
  go_ret
  refine ⟨rfl, ⟨hne, Hbw.out.far (p := ⟨g, 1, none⟩) (Ne.symm hne) _, A, c, ?_, by simp [Rdr.word], .inl rfl⟩, grown_set' _ _ _⟩
  exact Hg.out.set_ 1 _
 | cons x q =>
  obtain ⟨j, rfl, hj⟩ := hsh.resolve_left (by simp)
  obtain ⟨hj1, hj2⟩ := drop_succ_of hj
  have Hj := Lib.hid hj; have Hj1 := Lib.hid hj1
  have cx : w.cell? ⟨bw, j, none⟩ = some (.string x) := by rw [Hbw.out.cell, List.getElem?_toArray, List.getElem?_map, hj2]; rfl
  simp only [List.length_cons] at c0 hcap hle
  generalize hq : q.length = n at c0 hcap hle
  have Hq := Lib.hid hq
  clear hg hbw hsh hj hj1 hj2 hq
  have hn0 : ((n : Int) + 1 == 0) = false := by simp; omega
  by_cases hx : x = ByteArray.empty
  ·
   have hxe : x.toList.isEmpty = true := by rw [hx, ByteArray.toList_eq]; rfl
   have HX := Lib.hid hx; clear hx
   go_enter Tryz.func80, Tryz.ntmps80
   go_wp2
   go_ret
   have hw : (Rdr.mk (x :: q) bad).word = (ByteArray.empty, ⟨x :: q, true⟩) := by simp [Rdr.word, HX.out]
   rw [hw]
   refine ⟨rfl, ⟨hne, Hbw.out.far (p := ⟨g, 1, none⟩) (Ne.symm hne) _, some ⟨bw, j, none⟩, c, ?_, by simp [Hq.out]; omega, .inr ⟨j, rfl, Hj.out⟩⟩, grown_set' _ _ _⟩
   exact Hg.out.set_ 1 _
  ·
   have hxe : x.toList.isEmpty = false := by
    cases hh : x.toList.isEmpty with
    | false => rfl
    | true =>
     exfalso
     apply hx
     rw [List.isEmpty_iff, ByteArray.toList_eq] at hh
     cases x with | mk d => cases d with | mk l => simp at hh; rw [hh]; rfl
   have HX := Lib.hid hx; clear hx
   have hw : (Rdr.mk (x :: q) bad).word = (x, ⟨q, bad⟩) := by simp [Rdr.word, HX.out]
   have Hw := Lib.hid hw; clear hw
   by_cases hc1 : c = 1
   ·
    subst hc1
    obtain rfl : n = 0 := by omega
    have hq0 : q = [] := List.eq_nil_of_length_eq_zero Hq.out
    have Hq0 := Lib.hid hq0; clear hq0
    go_enter Tryz.func80, Tryz.ntmps80
    go_wp2
    go_ret
    rw [Hw.out]
    refine ⟨rfl, ⟨hne, Hbw.out.far (p := ⟨g, 0, none⟩) (Ne.symm hne) _, some ⟨bw, j, none⟩, 0, ?_, by rw [Hq0.out]; exact Nat.le_refl _, .inl Hq0.out⟩, grown_set' _ _ _⟩
    rw [Hq0.out]
    exact Hg.out.set_ 0 _
   ·
    have hc2 : ¬ c ≤ 1 := by omega
    go_enter Tryz.func80, Tryz.ntmps80
    go_wp2
    go_ret
    rw [Hw.out]
    refine ⟨rfl, ⟨hne, Hbw.out.far (p := ⟨g, 0, none⟩) (Ne.symm hne) _, some ⟨bw, j + 1, none⟩, c - 1, ?_, by rw [Hq.out]; omega, .inr ⟨j + 1, rfl, Hj1.out⟩⟩, grown_set' _ _ _⟩
    rw [Hq.out]
    exact Hg.out.set_ 0 _
theorem grown_trans {a b c : World} {g : Nat} (h1 : a.grownBy b (some g)) (h2 : b.grownBy c (some g)) : a.grownBy c (some g) :=
 ⟨h2.os.trans h1.os, h2.tape.trans h1.tape, h2.output.trans h1.output, Nat.le_trans h1.size h2.size, fun k hk hne => (h2.block k (Nat.lt_of_lt_of_le hk h1.size) hne).trans (h1.block k hk hne)⟩
theorem grown_below {a b : World} {g : Nat} (h : Below a.heap.size a b) : a.grownBy b (some g) :=
 ⟨h.os, h.tape, h.output, h.size, fun k hk _ => h.block k hk⟩
theorem below_of_grown {a b : World} {g B : Nat} (h : a.grownBy b (some g)) (hB : B ≤ g) (hs : B ≤ a.heap.size) : Below B a b :=
 ⟨h.os, h.tape, h.output, h.size, fun k hk => h.block k (by omega) (fun e => by have := Option.some.inj e; omega)⟩
theorem env_low {w w' : World} {B : Nat} (h : Env w) (hb : Below B w w') (hB : 5 < B) : Env w' := by
 obtain ⟨h1, h2, h3, h4, h5⟩ := h
 have e1 : w'.cell? ⟨1, 0, none⟩ = w.cell? ⟨1, 0, none⟩ := hb.cell (p := ⟨1, 0, none⟩) (by show 1 < _; omega)
 have e4 : w'.cell? ⟨4, 0, none⟩ = w.cell? ⟨4, 0, none⟩ := hb.cell (p := ⟨4, 0, none⟩) (by show 4 < _; omega)
 have e5 : w'.cell? ⟨5, 0, none⟩ = w.cell? ⟨5, 0, none⟩ := hb.cell (p := ⟨5, 0, none⟩) (by show 5 < _; omega)
 refine ⟨by rw [e1]; exact h1, by rw [e4]; exact h2, by rw [e5]; exact h3, ?_, by have := hb.size; omega⟩
 unfold Lib.TabIs at h4 ⊢
 exact var?_below hb (g := 0) (by kernel_rfl) (by omega) h4
theorem word_size (r : Rdr) (N : Nat) (h : ∀ s ∈ r.ws, s.size ≤ N) : r.word.1.size ≤ N ∧ ∀ s ∈ r.word.2.ws, s.size ≤ N := by
 obtain ⟨ws, bad⟩ := r
 cases ws with
 | nil => exact ⟨Nat.zero_le _, by simp [Rdr.word]⟩
 | cons x q =>
  unfold Rdr.word
  by_cases hx : x = ByteArray.empty
  ·
   simp only [hx, if_true]
   exact ⟨Nat.zero_le _, fun s hs => h s (by simpa [hx] using hs)⟩
  ·
   simp only [hx, if_false]
   exact ⟨h x (by simp), fun s hs => h s (by simp at hs ⊢; exact .inr hs)⟩
theorem word_len (r : Rdr) : r.word.2.ws.length ≤ r.ws.length := by
 obtain ⟨ws, bad⟩ := r
 cases ws with
 | nil => exact Nat.le_refl _
 | cons x q =>
  unfold Rdr.word
  by_cases hx : x = ByteArray.empty
  ·
   simp [hx]
  ·
   simp [hx]

set_option maxHeartbeats 1000000 in
theorem rint_any (g bw : Nat) (ws0 : List Str) (r : Rdr) (w : World) (h : RdrAt w g bw ws0 r) (hle : r.ws.length ≤ 100000) (hsz : ∀ s ∈ r.ws, s.size ≤ 1000000) (hE : Env w) (hg5 : 5 < g) :
 Calls Tryz.prog 79 #[.pointer (some ⟨g, 0, none⟩)] w fun x w' => x = .returned (.int .i64 r.int.1) ∧ RdrAt w' g bw ws0 r.int.2 ∧ w.grownBy w' (some g) := by
 have H := Lib.hid (word_any g bw ws0 r w h hle)
 have Hs := Lib.hid (word_size r 1000000 hsz).1
 have HE := Lib.hid hE
 have hglt := h.lt
 have Hr : Hid (r.int = (atoiV r.word.1, ⟨r.word.2.ws, r.word.2.bad || !numOk r.word.1⟩)) := rfl
 clear h hsz hE
 generalize r.word.1 = x at H Hs Hr
 generalize r.word.2 = r2 at H Hr
 obtain ⟨ws2, bad2⟩ := r2
 go_enter Tryz.func79, Tryz.ntmps79
 go_wp2_with fail
 refine H.out.mono ?_
 rintro e w1 ⟨rfl, hr1, hg1⟩
 have Hr1 := Lib.hid hr1; have Hg1 := Lib.hid hg1
 clear hr1 hg1 H
 go_wp2_with fail
 refine (integer_any x Hs.out w1 (env_low HE.out (below_of_grown (B := 6) Hg1.out (by omega) HE.out.six) (by omega))).mono ?_
 rintro e w2 ⟨rfl, hb2⟩
 obtain ⟨hne, hbw, A, c, hgk, hcap, hsh⟩ := Hr1.out.below hb2
 have Hb2 := Lib.hid hb2; have Hbw := Lib.hid hbw; have Hgk := Lib.hid hgk; have Hsh := Lib.hid hsh
 clear hb2 hbw hgk hsh
 have c1 : w2.cell? ⟨g, 1, none⟩ = some (.bool bad2) := by rw [Hgk.out.cell]; rfl
 have f1 : w2.frozen? ⟨g, 1, none⟩ = false := Hgk.out.frozen _
 cases bad2
 all_goals
  go_wp2
  go_ret
  rw [Hr.out]
  refine ⟨rfl, ⟨hne, Hbw.out.far (p := ⟨g, 1, none⟩) (Ne.symm hne) _, A, c, ?_, hcap, Hsh.out⟩, grown_trans Hg1.out (grown_trans (grown_below Hb2.out) (grown_set' _ _ _))⟩
  exact Hgk.out.set_ 1 _
end Go.Proofs.YtmagppkclnebjaaGreatDoor
