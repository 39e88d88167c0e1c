/- The plain law of LineupSteady: each slot is covered by its stints, a player's stints add up to his plays, who has left has no slot from then on. -/
import Derived.Test.YtmagppkclnebjaaGreatDoorQp
set_option linter.unusedVariables false
set_option linter.unusedSimpArgs false
set_option linter.unusedVariables false
namespace Go.Proofs.YtmagppkclnebjaaGreatDoor
namespace L

def sti0 : Sti := ⟨0, 0, 0, .empty, 0, 0⟩
/-- the beginning of each part of a list made of parts -/
def posF {α : Type} (F : Nat → List α) (q : Nat) : Nat := ((List.range q).flatMap F).length
theorem posF_succ {α : Type} (F : Nat → List α) (q : Nat) : posF F (q + 1) = posF F q + (F q).length := by
 unfold posF; rw [List.range_succ, List.flatMap_append, List.length_append]; simp
theorem posF_le {α : Type} (F : Nat → List α) {a b : Nat} (h : a ≤ b) : posF F a ≤ posF F b := by
 induction b with
 | zero =>
  obtain rfl : a = 0 := by omega
  exact Nat.le_refl _
 | succ b ih =>
  by_cases e : a = b + 1
  ·
   subst e; exact Nat.le_refl _
  ·
   rw [posF_succ]; exact Nat.le_trans (ih (by omega)) (Nat.le_add_right _ _)
theorem getD_appL {α : Type} (l l' : List α) (i : Nat) (d : α) (h : i < l.length) : (l ++ l').getD i d = l.getD i d := by
 simp [List.getD, List.getElem?_append_left h]
theorem getD_appR {α : Type} (l l' : List α) (i : Nat) (d : α) : (l ++ l').getD (l.length + i) d = l'.getD i d := by
 simp [List.getD, List.getElem?_append_right]
theorem flat_get {α : Type} (F : Nat → List α) (d : α) (q : Nat) : ∀ m, q < m → ∀ i, i < (F q).length → ((List.range m).flatMap F).getD (posF F q + i) d = (F q).getD i d
 | 0, h, _, _ => by omega
 | m + 1, h, i, hi => by
  rw [List.range_succ, List.flatMap_append]
  by_cases e : q = m
  ·
   subst e
   show ((List.range q).flatMap F ++ [q].flatMap F).getD (((List.range q).flatMap F).length + i) d = _
   rw [getD_appR]
   simp
  ·
   have hlt : posF F q + i < ((List.range m).flatMap F).length := by
    have h1 := posF_succ F q
    have h2 := posF_le F (show q + 1 ≤ m by omega)
    have : posF F m = ((List.range m).flatMap F).length := rfl
    omega
   rw [getD_appL _ _ _ _ hlt]
   exact flat_get F d q m (by omega) i hi

/-- the stints of the q-th slot of both sides -/
def slotF (t : Tms) (l : List Chg) (n : Int) (q : Nat) : List Sti := stintsL t l n ((q / 9 : Nat) : Int) (((q % 9 : Nat) : Int) + 1)
theorem all_flat (t : Tms) (l : List Chg) (n : Int) : allL t l n = (List.range 18).flatMap (slotF t l n) := by
 have e18 : List.range 18 = [0, 1, 2, 3, 4, 5, 6, 7, 8, 9, 10, 11, 12, 13, 14, 15, 16, 17] := rfl
 have e9 : List.range 9 = [0, 1, 2, 3, 4, 5, 6, 7, 8] := rfl
 unfold allL sideL slotF
 rw [e18, e9]
 simp only [List.flatMap_cons, List.flatMap_nil, List.append_assoc, List.nil_append, List.append_nil]
 rfl
/-- where a slot's plays go on, at index i of the list: the slot's stints begin at index p -/
def nxt (S : List Sti) (p i : Nat) : Int := if i = p then 0 else (S.getD (i - 1) sti0).to
theorem cov_at {h : Nat → Str × Int} {side slot : Int} {n : Nat} : ∀ {S : List Sti} {a : Nat}, Cov h side slot n a S → ∀ i, i < S.length →
 (S.getD i sti0).side = side ∧ (S.getD i sti0).slot = slot ∧ (S.getD i sti0).fr = (if i = 0 then (a : Int) else (S.getD (i - 1) sti0).to) ∧ (S.getD i sti0).fr < (S.getD i sti0).to ∧ (S.getD i sti0).to ≤ n ∧ 0 ≤ (S.getD i sti0).fr
 | [], _, _, i, hi => by simp at hi
 | s :: S, a, ⟨b, h1, h2, h3, _, _, h6⟩, i, hi => by
  cases i with
  | zero =>
   subst h3
   refine ⟨rfl, rfl, rfl, ?_, ?_, ?_⟩
   ·
    show (a : Int) < b; omega
   ·
    show (b : Int) ≤ n; omega
   ·
    show (0 : Int) ≤ a; omega
  | succ i =>
   obtain ⟨g1, g2, g3, g4, g5, g6⟩ := cov_at h6 i (by simpa using hi)
   have e : (s :: S).getD (i + 1) sti0 = S.getD i sti0 := rfl
   rw [e]
   refine ⟨g1, g2, ?_, g4, g5, g6⟩
   rw [g3, if_neg (Nat.succ_ne_zero i), Nat.add_sub_cancel]
   cases i with
   | zero => rw [if_pos rfl]; subst h3; rfl
   | succ i => rw [if_neg (Nat.succ_ne_zero i)]; rfl
theorem cov_last {h : Nat → Str × Int} {side slot : Int} {n : Nat} : ∀ {S : List Sti} {a : Nat}, Cov h side slot n a S → (if S.length = 0 then (a : Int) else (S.getD (S.length - 1) sti0).to) = n
 | [], _, hc => by unfold Cov at hc; rw [if_pos (show ([] : List Sti).length = 0 from rfl), hc]
 | s :: S, a, ⟨b, h1, h2, h3, _, _, h6⟩ => by
  have ih := cov_last h6
  rw [if_neg (by simp)]
  cases S with
  | nil => subst h3; simpa using ih
  | cons s' S =>
   rw [if_neg (by simp)] at ih
   rw [← ih]
   congr 1
theorem stLoop_len (n side slot : Int) : ∀ (l : List Chg) (now : Sti), (stLoop n side slot now l).length ≤ 1 + l.countP (fun c => decide (c.side = side) && decide (c.slot = slot))
 | [], now => by
  rw [stLoop]
  split <;> simp
 | c :: r, now => by
  rw [stLoop]
  split
  ·
   have := stLoop_len n side slot r now
   rw [List.countP_cons]; omega
  ·
   rename_i hc
   have ih := stLoop_len n side slot r ⟨side, slot, c.pos, c.name, c.play, 0⟩
   have e1 : c.side = side := by
    by_cases e : c.side = side
    ·
     exact e
    ·
     exact absurd (.inl e) hc
   have e2 : c.slot = slot := by
    by_cases e : c.slot = slot
    ·
     exact e
    ·
     exact absurd (.inr (.inl e)) hc
   rw [List.length_append, List.countP_cons]
   have h1 : (if now.fr < c.play then [({ now with to := c.play } : Sti)] else []).length ≤ 1 := by split <;> simp
   simp only [e1, e2, decide_true, Bool.and_true, if_true] at ih ⊢
   omega
theorem side_few (t : Tms) (l : List Chg) (n side : Int) : (sideL t l n side 9).length ≤ 9 + l.length := by
 unfold sideL
 rw [List.length_flatMap]
 refine Nat.le_trans (sum_le _ _ (fun (j : Nat) => 1 + l.countP (fun c => decide (c.side = side) && decide (c.slot = (j : Int) + 1))) fun j _ => ?_) ?_
 ·
  exact stLoop_len n side _ l _
 ·
  rw [sum_add]
  have := slots_le side l
  have e : ((List.range 9).map fun (_ : Nat) => 1).sum = 9 := rfl
  omega

/-- the stints S of a game of n plays, as LineupSteady goes over them: p q is where the q-th slot begins -/
structure StdS (S : List Sti) (n : Nat) (p : Nat → Nat) : Prop where
 p0 : p 0 = 0
 p18 : p 18 = S.length
 lo : ∀ q, q < 18 → p q ≤ p (q + 1)
 hi : ∀ q, q ≤ 18 → p q ≤ S.length
 at_ : ∀ q, q < 18 → ∀ i, p q ≤ i → i < p (q + 1) → (S.getD i sti0).side = ((q / 9 : Nat) : Int) ∧ (S.getD i sti0).slot = ((q % 9 : Nat) : Int) + 1 ∧ (S.getD i sti0).fr = nxt S (p q) i ∧ (S.getD i sti0).fr < (S.getD i sti0).to ∧ (S.getD i sti0).to ≤ n
 stop : ∀ q, q < 18 → nxt S (p q) (p (q + 1)) = n
 other : ∀ q, q < 18 → p (q + 1) < S.length → ¬ ((S.getD (p (q + 1)) sti0).side = ((q / 9 : Nat) : Int) ∧ (S.getD (p (q + 1)) sti0).slot = ((q % 9 : Nat) : Int) + 1)
 few : 18 ≤ S.length ∧ S.length ≤ 100
 bd : ∀ i, i < S.length → 0 ≤ (S.getD i sti0).fr ∧ (S.getD i sti0).fr ≤ (S.getD i sti0).to ∧ (S.getD i sti0).to ≤ n

theorem slotF_cov {t : Tms} {l : List Chg} (ht : t.ok) (h : checkChanges t l = 0) (n q : Nat) (hq : q < 18) :
 Cov (hwo t l ((q / 9 : Nat) : Int) (((q % 9 : Nat) : Int) + 1)) ((q / 9 : Nat) : Int) (((q % 9 : Nat) : Int) + 1) n 0 (slotF t l n q) :=
 stints_cov ht h _ _ (by omega) (by omega) n
theorem steady_stints {t : Tms} {l : List Chg} (ht : t.ok) (h : checkChanges t l = 0) (hl : l.length ≤ 8) (n : Nat) (hn : 1 ≤ n) : StdS (allL t l n) n (posF (slotF t l n)) := by
 have hC := fun q hq => slotF_cov ht h n q hq
 have hne : ∀ q, q < 18 → 0 < (slotF t l n q).length := fun q hq => by
  have := hC q hq
  cases hs : slotF t l n q with
  | nil => rw [hs] at this; unfold Cov at this; omega
  | cons s S => simp
 have hS := all_flat t l n
 have hlen : (allL t l n).length = posF (slotF t l n) 18 := by rw [hS]; rfl
 have hg : ∀ q, q < 18 → ∀ i, i < (slotF t l n q).length → (allL t l n).getD (posF (slotF t l n) q + i) sti0 = (slotF t l n q).getD i sti0 := fun q hq i hi => by rw [hS]; exact flat_get _ sti0 q 18 hq i hi
 have hlt : ∀ q, q < 18 → posF (slotF t l n) q < posF (slotF t l n) (q + 1) := fun q hq => by rw [posF_succ]; have := hne q hq; omega
 have hAt : ∀ q, q < 18 → ∀ i, posF (slotF t l n) q ≤ i → i < posF (slotF t l n) (q + 1) → ((allL t l n).getD i sti0).side = ((q / 9 : Nat) : Int) ∧ ((allL t l n).getD i sti0).slot = ((q % 9 : Nat) : Int) + 1 ∧ ((allL t l n).getD i sti0).fr = nxt (allL t l n) (posF (slotF t l n) q) i ∧ ((allL t l n).getD i sti0).fr < ((allL t l n).getD i sti0).to ∧ ((allL t l n).getD i sti0).to ≤ n ∧ 0 ≤ ((allL t l n).getD i sti0).fr := fun q hq i h1 h2 => by
  obtain ⟨j, rfl⟩ := Nat.exists_eq_add_of_le h1
  rw [posF_succ] at h2
  have hj : j < (slotF t l n q).length := by omega
  obtain ⟨g1, g2, g3, g4, g5, g6⟩ := cov_at (hC q hq) j hj
  rw [hg q hq j hj]
  refine ⟨g1, g2, ?_, g4, g5, g6⟩
  rw [g3]
  unfold nxt
  cases j with
  | zero => simp
  | succ j =>
   rw [if_neg (by omega), if_neg (by omega)]
   have e : posF (slotF t l n) q + (j + 1) - 1 = posF (slotF t l n) q + j := by omega
   rw [e, hg q hq j (by omega), Nat.add_sub_cancel]
 have hfind : ∀ i, i < (allL t l n).length → ∃ q, q < 18 ∧ posF (slotF t l n) q ≤ i ∧ i < posF (slotF t l n) (q + 1) := fun i hi => by
  rw [hlen] at hi
  have key : ∀ m, m ≤ 18 → i < posF (slotF t l n) m → ∃ q, q < 18 ∧ posF (slotF t l n) q ≤ i ∧ i < posF (slotF t l n) (q + 1) := fun m => by
   induction m with
   | zero => intro _ h; unfold posF at h; simp at h
   | succ m ih =>
    intro hm h
    by_cases hlt : i < posF (slotF t l n) m
    ·
     exact ih (by omega) hlt
    ·
     exact ⟨m, by omega, by omega, h⟩
  exact key 18 (Nat.le_refl _) hi
 refine { p0 := rfl, p18 := hlen.symm, lo := fun q hq => Nat.le_of_lt (hlt q hq), hi := fun q hq => by rw [hlen]; exact posF_le _ hq, at_ := ?_, stop := ?_, other := ?_, few := ?_, bd := ?_ }
 ·
  intro q hq i h1 h2
  obtain ⟨g1, g2, g3, g4, g5, _⟩ := hAt q hq i h1 h2
  exact ⟨g1, g2, g3, g4, g5⟩
 ·
  intro q hq
  have hl := cov_last (hC q hq)
  have h0 := hne q hq
  rw [if_neg (by omega)] at hl
  unfold nxt
  rw [if_neg (by have := hlt q hq; omega), posF_succ]
  have e : posF (slotF t l n) q + (slotF t l n q).length - 1 = posF (slotF t l n) q + ((slotF t l n q).length - 1) := by omega
  rw [e, hg q hq _ (by omega), hl]
 ·
  intro q hq hlt2
  have hq2 : q + 1 < 18 := by
   by_cases e : q + 1 < 18
   ·
    exact e
   ·
    obtain rfl : q = 17 := by omega
    rw [hlen] at hlt2; exact absurd hlt2 (Nat.lt_irrefl _)
  obtain ⟨g1, g2, _⟩ := hAt (q + 1) hq2 (posF (slotF t l n) (q + 1)) (Nat.le_refl _) (hlt (q + 1) hq2)
  rw [g1, g2]
  rintro ⟨e1, e2⟩
  omega
 ·
  constructor
  ·
   rw [hlen]
   have key : ∀ m, m ≤ 18 → m ≤ posF (slotF t l n) m := fun m => by
    induction m with
    | zero => intro _; exact Nat.zero_le _
    | succ m ih => intro hm; have := hlt m (by omega); have := ih (by omega); omega
   exact key 18 (Nat.le_refl _)
  ·
   unfold allL
   rw [List.length_append]
   have := side_few t l n 0
   have := side_few t l n 1
   omega
 ·
  intro i hi
  obtain ⟨q, hq, h1, h2⟩ := hfind i hi
  obtain ⟨_, _, _, g4, g5, g6⟩ := hAt q hq i h1 h2
  exact ⟨g6, by omega, g5⟩

/-- a name that was there and is gone does not come again -/
theorem Run.away : ∀ {l : List Chg} {t : Tms} {known : List Str} {prev : Option Chg} (s : Str) (m : Int), Run t known prev l → s ∈ known → s ∉ t.all → s ∉ (atL t l m).all
 | [], t, known, prev, s, m, h, hk, hn => hn
 | c :: r, t, known, prev, s, m, h, hk, hn => by
  unfold atL
  split
  ·
   exact hn
  ·
   refine Run.away s m h.step (List.mem_append_left _ hk) fun hm => ?_
   obtain ⟨c0, _, _, c3, _, _⟩ := ccLoop_cons h.cc
   obtain ⟨k, hk2, e1, e2⟩ := made_all t h.ok c (okS_of c0)
   rw [e1] at hm
   rcases mem_set hm with hm | rfl
   ·
    exact hn hm
   ·
    rcases c3 with c3 | c3
    ·
     exact hn (by rw [← c3, e2]; exact List.getElem_mem _)
    ·
     exact c3 hk
theorem set_gone {α : Type} {l : List α} (h : l.Nodup) (k : Nat) (hk : k < l.length) (x : α) (hx : l[k] ≠ x) : l[k] ∉ l.set k x := by
 intro hm
 obtain ⟨j, hj, e⟩ := List.getElem_of_mem hm
 rw [List.length_set] at hj
 by_cases ej : k = j
 ·
  subst ej; rw [List.getElem_set_self] at e; exact hx e.symm
 ·
  rw [List.getElem_set_ne ej] at e
  exact ej ((List.getElem_inj h).1 e.symm)
theorem Run.gone_ : ∀ {l : List Chg} {t : Tms} {known : List Str} {prev : Option Chg} (s : Str) (side k m : Int), Run t known prev l → k ≤ m → s ∈ goneL t l k side → s ∉ (atL t l m).all
 | [], t, known, prev, s, side, k, m, h, hkm, hs => by simp [goneL] at hs
 | c :: r, t, known, prev, s, side, k, m, h, hkm, hs => by
  unfold goneL at hs
  by_cases hc : k < c.play
  ·
   rw [if_pos hc] at hs; simp at hs
  ·
   rw [if_neg hc] at hs
   rw [atL_yes (by omega)]
   rcases List.mem_append.1 hs with hs | hs
   ·
    split at hs
    ·
     rename_i hd
     rw [List.mem_singleton] at hs
     subst hs
     obtain ⟨c0, _⟩ := ccLoop_cons h.cc
     obtain ⟨j, hj, e1, e2⟩ := made_all t h.ok c (okS_of c0)
     refine h.step.away _ m (List.mem_append_left _ (h.kn _ (by rw [e2]; exact List.getElem_mem _))) ?_
     rw [e1, e2]
     exact set_gone h.nd j hj c.name (by rw [← e2]; exact hd.1)
    ·
     simp at hs
   ·
    exact h.step.gone_ s side k m hkm hs
theorem steady_gone {t : Tms} {l : List Chg} (ht : t.ok) (h : checkChanges t l = 0) (side k m : Int) (h2 : side = 0 ∨ side = 1) (hkm : k ≤ m) (s : Str) (hs : s ∈ goneL t l k side) : idxF (fun y => decide (y = s)) ((atL t l m).get side).b = -1 := by
 have hno := (Run.start ht h).gone_ s side k m hkm hs
 have : s ∉ ((atL t l m).get side).b := fun hm => hno (by
  unfold Tms.all
  rcases h2 with rfl | rfl
  ·
   exact List.mem_append_left _ hm
  ·
   exact List.mem_append_right _ hm)
 unfold idxF
 have e : ((atL t l m).get side).b.findIdx? (fun y => decide (y = s)) = none := by
  rw [List.findIdx?_eq_none_iff]
  intro x hx
  simp only [decide_eq_false_iff_not]
  rintro rfl
  exact this hx
 rw [e]

/-- a position's player has one slot, with this position -/
theorem steady_who {T : Tms} (h : T.fine) (side : Int) (hs : side = 0 ∨ side = 1) (pos : Int) (hp : 1 ≤ pos ∧ pos ≤ 9) :
 ∃ k : Nat, k < 9 ∧ idxF (fun y => decide (y = holder (T.get side) pos)) (T.get side).b = k ∧ (T.get side).b.getD k .empty = holder (T.get side) pos ∧ (T.get side).p.getD k 0 = pos := by
 obtain ⟨hb, hp9⟩ := Tms.get_ok T h.ok side
 have hm := all_there hp9 (h.pm side hs) (h.rg side hs) pos hp
 have hnd : (T.get side).b.Nodup := by
  have := h.nd
  unfold Tms.all at this
  rw [List.nodup_append] at this
  rcases hs with rfl | rfl
  ·
   exact this.1
  ·
   exact this.2.1
 unfold holder
 cases hf : (T.get side).p.findIdx? (fun y => decide (y = pos)) with
 | none =>
  rw [List.findIdx?_eq_none_iff] at hf
  have := hf pos hm
  simp at this
 | some i =>
  rw [List.findIdx?_eq_some_iff_getElem] at hf
  obtain ⟨hi, e1, _⟩ := hf
  have e2 : idxF (fun y => decide (y = pos)) (T.get side).p = (i : Int) := by
   unfold idxF
   have : (T.get side).p.findIdx? (fun y => decide (y = pos)) = some i := by
    rw [List.findIdx?_eq_some_iff_getElem]; exact ⟨hi, e1, by assumption⟩
   rw [this]
  rw [e2, show (max 0 (i : Int)).toNat = i by omega]
  have hib : i < (T.get side).b.length := by omega
  have eb : (T.get side).b.getD i .empty = (T.get side).b[i] := by rw [List.getD_eq_getElem?_getD, List.getElem?_eq_getElem hib]; rfl
  refine ⟨i, by omega, ?_, rfl, ?_⟩
  ·
   unfold idxF
   have : (T.get side).b.findIdx? (fun y => decide (y = (T.get side).b.getD i .empty)) = some i := by
    rw [List.findIdx?_eq_some_iff_getElem]
    refine ⟨hib, by rw [eb]; exact decide_eq_true rfl, fun j hj => ?_⟩
    rw [eb]
    simp only [Bool.not_eq_true, decide_eq_false_iff_not]
    intro e
    have := (List.getElem_inj hnd).1 e
    omega
   rw [this]
  ·
   simp only [decide_eq_true_eq] at e1
   simp [List.getD, List.getElem?_eq_getElem hi, e1]

/-- the names of both sides: each once -/
theorem addName_nodup {out : List Str} (h : out.Nodup) (s : Str) : (addName out s).Nodup := by
 unfold addName
 split
 ·
  exact h
 ·
  rename_i hn
  rw [List.nodup_append]
  exact ⟨h, by simp, fun a ha b hb e => by simp at hb; subst hb; exact hn (e ▸ ha)⟩
theorem Run.names_ : ∀ {l : List Chg} {t : Tms} {known : List Str} {prev : Option Chg} (o0 o1 : List Str), Run t known prev l → (o0 ++ o1).Nodup → (∀ s ∈ o0 ++ o1, s ∈ known) → (∀ s ∈ t.l0.b, s ∈ o0) → (∀ s ∈ t.l1.b, s ∈ o1) →
 ((l.foldl (fun out c => if c.side = 0 then addName out c.name else out) o0) ++ (l.foldl (fun out c => if c.side = 1 then addName out c.name else out) o1)).Nodup
 | [], _, _, _, _, _, _, hn, _, _, _ => hn
 | c :: r, t, known, prev, o0, o1, h, hn, hk, h0, h1 => by
  obtain ⟨c0, _, _, c3, _, _⟩ := ccLoop_cons h.cc
  have hs := okS_of c0
  rw [List.foldl_cons, List.foldl_cons]
  rw [List.nodup_append] at hn
  obtain ⟨n0, n1, n2⟩ := hn
  obtain ⟨k, hk2, e2, e3⟩ := bat_get (t.get c.side) (Tms.get_ok t h.ok c.side) c.slot hs.2.1 hs.2.2
  have hbm : (t.get c.side).bat c.slot ∈ (t.get c.side).b := by rw [e3]; exact List.getElem_mem _
  rcases hs.1 with e | e
  ·
   rw [if_pos e, if_neg (by omega)]
   have hgs := get_made_same t c hs.1
   have hgo := get_made_other t c hs.1 1 (.inr rfl) (by omega)
   rw [e] at hgs hbm
   have hin : c.name ∈ o0 ∨ c.name ∉ known := by
    rcases c3 with c3 | c3
    ·
     exact .inl (h0 _ (by rw [← c3, e]; exact hbm))
    ·
     exact .inr c3
   refine h.step.names_ _ _ ?_ ?_ ?_ ?_
   ·
    rw [List.nodup_append]
    refine ⟨addName_nodup n0 _, n1, fun a ha b hb eab => ?_⟩
    rcases (addName_mem o0 c.name a).1 ha with ha | rfl
    ·
     exact n2 a ha b hb eab
    ·
     subst eab
     rcases hin with hin | hin
     ·
      exact n2 _ hin _ hb rfl
     ·
      exact hin (hk _ (List.mem_append_right _ hb))
   ·
    intro s hs2
    rcases List.mem_append.1 hs2 with hs2 | hs2
    ·
     rcases (addName_mem o0 c.name s).1 hs2 with hs2 | rfl
     ·
      exact List.mem_append_left _ (hk _ (List.mem_append_left _ hs2))
     ·
      simp
    ·
     exact List.mem_append_left _ (hk _ (List.mem_append_right _ hs2))
   ·
    intro s hs2
    have hs3 : s ∈ ((t.made c).get 0).b := hs2
    rw [hgs] at hs3
    rw [addName_mem]
    rcases mem_set (show s ∈ (t.get 0).b.set _ _ from hs3) with hs3 | rfl
    ·
     exact .inl (h0 s hs3)
    ·
     exact .inr rfl
   ·
    intro s hs2
    have hs3 : s ∈ ((t.made c).get 1).b := hs2
    rw [hgo] at hs3
    exact h1 s hs3
  ·
   rw [if_neg (by omega), if_pos e]
   have hgs := get_made_same t c hs.1
   have hgo := get_made_other t c hs.1 0 (.inl rfl) (by omega)
   rw [e] at hgs hbm
   have hin : c.name ∈ o1 ∨ c.name ∉ known := by
    rcases c3 with c3 | c3
    ·
     exact .inl (h1 _ (by rw [← c3, e]; exact hbm))
    ·
     exact .inr c3
   refine h.step.names_ _ _ ?_ ?_ ?_ ?_
   ·
    rw [List.nodup_append]
    refine ⟨n0, addName_nodup n1 _, fun a ha b hb eab => ?_⟩
    rcases (addName_mem o1 c.name b).1 hb with hb | rfl
    ·
     exact n2 a ha b hb eab
    ·
     subst eab
     rcases hin with hin | hin
     ·
      exact n2 _ ha _ hin rfl
     ·
      exact hin (hk _ (List.mem_append_left _ ha))
   ·
    intro s hs2
    rcases List.mem_append.1 hs2 with hs2 | hs2
    ·
     exact List.mem_append_left _ (hk _ (List.mem_append_left _ hs2))
    ·
     rcases (addName_mem o1 c.name s).1 hs2 with hs2 | rfl
     ·
      exact List.mem_append_left _ (hk _ (List.mem_append_right _ hs2))
     ·
      simp
   ·
    intro s hs2
    have hs3 : s ∈ ((t.made c).get 0).b := hs2
    rw [hgo] at hs3
    exact h0 s hs3
   ·
    intro s hs2
    have hs3 : s ∈ ((t.made c).get 1).b := hs2
    rw [hgs] at hs3
    rw [addName_mem]
    rcases mem_set (show s ∈ (t.get 1).b.set _ _ from hs3) with hs3 | rfl
    ·
     exact .inl (h1 s hs3)
    ·
     exact .inr rfl
theorem names_nodup {t : Tms} {l : List Chg} (ht : t.ok) (h : checkChanges t l = 0) : (namesL t l 0 ++ namesL t l 1).Nodup := by
 have hR := Run.start ht h
 exact hR.names_ t.l0.b t.l1.b hR.nd (fun s hs => hs) (fun s hs => hs) (fun s hs => hs)
/-- who has a slot at a play is among the names of his side -/
theorem at_named (side : Int) (h2 : side = 0 ∨ side = 1) : ∀ (l : List Chg) (t : Tms) (n : Int) (s : Str), (∀ c ∈ l, c.okS) → s ∈ ((atL t l n).get side).b → s ∈ (t.get side).b ∨ ∃ c ∈ l, c.side = side ∧ c.name = s
 | [], t, n, s, _, hs => .inl hs
 | c :: r, t, n, s, hc, hs => by
  unfold atL at hs
  split at hs
  ·
   exact .inl hs
  ·
   rcases at_named side h2 r (t.made c) n s (fun d hd => hc d (List.mem_cons_of_mem _ hd)) hs with h | ⟨d, hd, e1, e2⟩
   ·
    have hcs := hc c (by simp)
    by_cases e : side = c.side
    ·
     subst e
     rw [get_made_same t c h2] at h
     rcases mem_set (show s ∈ (t.get c.side).b.set _ _ from h) with h | rfl
     ·
      exact .inl h
     ·
      exact .inr ⟨c, by simp, rfl, rfl⟩
    ·
     rw [get_made_other t c hcs.1 side h2 e] at h
     exact .inl h
   ·
    exact .inr ⟨d, List.mem_cons_of_mem _ hd, e1, e2⟩
theorem side_names {t : Tms} {l : List Chg} (h : checkChanges t l = 0) (side : Int) (h2 : side = 0 ∨ side = 1) (n : Int) (s : Str) (hs : s ∈ ((atL t l n).get side).b) : s ∈ namesL t l side := by
 unfold namesL
 rw [namesL_mem t]
 exact at_named side h2 l t n s (fun c hc => okS_of ((cc_parts h).2.2.1 c hc)) hs

theorem sumOf_cons (x : Sti) (S : List Sti) (name : Str) : sumOf (x :: S) name = (if name = x.name then x.to - x.fr else 0) + sumOf S name := by
 unfold sumOf
 rw [List.map_cons, List.sum_cons]
 by_cases e : x.name = name
 ·
  rw [if_pos e, if_pos e.symm]
 ·
  rw [if_neg e, if_neg (fun h => e h.symm)]
theorem sum_one (N : List Str) (h : N.Nodup) (s : Str) (v : Int) : (N.map fun x => if x = s then v else 0).sum = if s ∈ N then v else 0 := by
 induction N with
 | nil => rfl
 | cons a N ih =>
  rw [List.nodup_cons] at h
  rw [List.map_cons, List.sum_cons, ih h.2]
  by_cases e : a = s
  ·
   subst e
   rw [if_pos rfl, if_neg h.1, if_pos (by simp)]; omega
  ·
   rw [if_neg e, Int.zero_add]
   have : (s ∈ a :: N) ↔ s ∈ N := by rw [List.mem_cons]; exact ⟨fun h => h.resolve_left fun h => e h.symm, .inr⟩
   simp only [this]
theorem sum_addI (J : List Str) (f g : Str → Int) : (J.map fun j => f j + g j).sum = (J.map f).sum + (J.map g).sum := by
 induction J with
 | nil => rfl
 | cons a J ih => simp only [List.map_cons, List.sum_cons, ih]; omega
/-- the plays of all names are those of all stints -/
theorem names_sum (N : List Str) (h : N.Nodup) : ∀ S : List Sti, (∀ s ∈ S, s.name ∈ N) → (N.map (sumOf S)).sum = (S.map fun s => s.to - s.fr).sum
 | [], _ => by
  have key : ∀ M : List Str, (M.map (sumOf [])).sum = 0 := fun M => by
   induction M with
   | nil => rfl
   | cons a M ih => rw [List.map_cons, List.sum_cons, ih]; rfl
  rw [key]; rfl
 | s :: S, hs => by
  have ih := names_sum N h S fun x hx => hs x (List.mem_cons_of_mem _ hx)
  have e : N.map (sumOf (s :: S)) = N.map fun x => (if x = s.name then s.to - s.fr else 0) + sumOf S x := List.map_congr_left fun x _ => sumOf_cons s S x
  rw [e, sum_addI N (fun x => if x = s.name then s.to - s.fr else 0) (sumOf S), sum_one N h, if_pos (hs s (by simp)), List.map_cons, List.sum_cons]
  have e2 : (N.map fun x => sumOf S x).sum = (S.map fun s => s.to - s.fr).sum := ih
  rw [e2]
theorem cov_total {h : Nat → Str × Int} {side slot : Int} {n : Nat} : ∀ {S : List Sti} {a : Nat}, Cov h side slot n a S → (S.map fun s => s.to - s.fr).sum = (n : Int) - a
 | [], a, hc => by unfold Cov at hc; subst hc; simp
 | s :: S, a, ⟨b, h1, h2, h3, _, _, h6⟩ => by
  rw [List.map_cons, List.sum_cons, cov_total h6, h3]
  show ((b : Int) - a) + _ = _
  omega
theorem steady_total {t : Tms} {l : List Chg} (ht : t.ok) (h : checkChanges t l = 0) (n : Nat) : ((namesL t l 0 ++ namesL t l 1).map (sumOf (allL t l n))).sum = 18 * n := by
 rw [names_sum _ (names_nodup ht h)]
 ·
  rw [all_flat]
  have key : ∀ m, m ≤ 18 → (((List.range m).flatMap (slotF t l n)).map fun s => s.to - s.fr).sum = m * n := fun m => by
   induction m with
   | zero => intro _; simp
   | succ m ih =>
    intro hm
    rw [List.range_succ, List.flatMap_append, List.map_append, List.sum_append, ih (by omega)]
    have e : [m].flatMap (slotF t l n) = slotF t l n m := by simp
    rw [e, cov_total (slotF_cov ht h n m (by omega))]
    have : ((m + 1 : Nat) : Int) * n = m * n + n := by rw [Int.natCast_add, Int.add_mul]; simp
    omega
  exact key 18 (Nat.le_refl _)
 ·
  intro s hs
  have key : ∀ side, side = 0 ∨ side = 1 → s ∈ sideL t l n side 9 → s.name ∈ namesL t l side := fun side h2 hm => by
   unfold sideL at hm
   rw [List.mem_flatMap] at hm
   obtain ⟨j, hj, hm⟩ := hm
   have hj9 := List.mem_range.1 hj
   obtain ⟨k, _, _, _, _, _, _, e⟩ := cov_mem (stints_cov ht h side ((j : Int) + 1) h2 (by omega) n) s hm
   rw [e]
   refine side_names h side h2 k _ ?_
   obtain ⟨i, hi, _, e3⟩ := bat_get ((atL t l k).get side) (Tms.get_ok _ (atL_ok l t k ht) side) ((j : Int) + 1) (by omega) (by omega)
   show ((atL t l k).get side).bat ((j : Int) + 1) ∈ _
   rw [e3]
   exact List.getElem_mem _
  unfold allL at hs
  rcases List.mem_append.1 hs with hs | hs
  ·
   exact List.mem_append_left _ (key 0 (.inl rfl) hs)
  ·
   exact List.mem_append_right _ (key 1 (.inr rfl) hs)
/-- a sum over the first stints: one more -/
theorem sumOf_take (S : List Sti) (name : Str) (i : Nat) (hi : i < S.length) : sumOf (S.take (i + 1)) name = sumOf (S.take i) name + if (S.getD i sti0).name = name then (S.getD i sti0).to - (S.getD i sti0).fr else 0 := by
 rw [List.take_add_one, sumOf_append]
 have e : S.getD i sti0 = S[i] := by simp [List.getD, List.getElem?_eq_getElem hi]
 rw [e, List.getElem?_eq_getElem hi]
 simp [sumOf]
theorem sumOf_bd (S : List Sti) (name : Str) (n : Nat) (hb : ∀ i, i < S.length → 0 ≤ (S.getD i sti0).fr ∧ (S.getD i sti0).fr ≤ (S.getD i sti0).to ∧ (S.getD i sti0).to ≤ n) : ∀ i, i ≤ S.length → 0 ≤ sumOf (S.take i) name ∧ sumOf (S.take i) name ≤ i * n
 | 0, _ => by simp [sumOf]
 | i + 1, hi => by
  have ih := sumOf_bd S name n hb i (by omega)
  have h1 := hb i (by omega)
  have : ((i + 1 : Nat) : Int) * n = i * n + n := by rw [Int.natCast_add, Int.add_mul]; simp
  rw [sumOf_take S name i (by omega)]
  split <;> omega
end L
end Go.Proofs.YtmagppkclnebjaaGreatDoor
