/- Texts of this seat, joined: Valid games: the order of the changes; the teams at each play are valid · Stints: the program's and the reference's are one: both cover the plays of a slot, each as long as its player and position stay · Played: the plays of a player's stints are the plays at which he is in the game · Pitchers: the stints of a side with the position 1, by From: sorted and searched for play by play they are one list; they are few · Split and Swap: the program's and the reference's lists of changes are one · What is split off a valid game is valid, and so is a game with both sides exchanged; the teams at a play lie in them · Numerals: the program's reading of a number and the reference's are one · Small laws of the references: who has a position, who is gone, the names of a side. -/
import Derived.Test.YtmagppkclnebjaaGreatDoorQ0
set_option linter.unusedVariables false
set_option linter.unusedSimpArgs false
namespace Go.Proofs.YtmagppkclnebjaaGreatDoor
namespace L

theorem after_iff (a b : Chg) : after a b = true ↔ a.play > b.play ∨ (a.play = b.play ∧ (a.side > b.side ∨ (a.side = b.side ∧ a.slot > b.slot))) := by
 unfold after
 by_cases h1 : a.play = b.play
 ·
  by_cases h2 : a.side = b.side
  ·
   simp [h1, h2]
  ·
   simp [h1, h2]
 ·
  simp [h1]
theorem after_trans {a b c : Chg} (h1 : after a b = true) (h2 : after b c = true) : after a c = true := by
 rw [after_iff] at *; omega
theorem after_play {a b : Chg} (h : after a b = true) : b.play ≤ a.play := by
 rw [after_iff] at h; omega
theorem after_irrefl (a : Chg) : after a a = false := by
 rw [Bool.eq_false_iff]; intro h; rw [after_iff] at h; omega
theorem ccLoop_cons {t : Tms} {known : List Str} {prev : Option Chg} {c : Chg} {r : List Chg} (h : ccLoop t known prev (c :: r) = 0) :
 checkC c = 0 ∧ late c prev = false ∧ ¬ ((t.get c.side).bat c.slot = c.name ∧ (t.get c.side).at_ c.slot = c.pos) ∧ ((t.get c.side).bat c.slot = c.name ∨ c.name ∉ known) ∧
  (ends c r = true → ((t.made c).get c.side).p.Nodup) ∧ ccLoop (t.made c) (known ++ [c.name]) (some c) r = 0 := by
 unfold ccLoop at h
 by_cases h0 : checkC c = 0
 ·
  rw [if_neg (by simp [h0])] at h
  by_cases h1 : late c prev = true
  ·
   rw [if_pos h1] at h; cases h
  ·
   rw [if_neg h1] at h
   by_cases h2 : (t.get c.side).bat c.slot = c.name ∧ (t.get c.side).at_ c.slot = c.pos
   ·
    rw [if_pos h2] at h; cases h
   ·
    rw [if_neg h2] at h
    by_cases h3 : (t.get c.side).bat c.slot ≠ c.name ∧ c.name ∈ known
    ·
     rw [if_pos h3] at h; cases h
    ·
     rw [if_neg h3] at h
     by_cases h4 : ends c r = true ∧ ¬ ((t.made c).get c.side).p.Nodup
     ·
      rw [if_pos h4] at h; cases h
     ·
      rw [if_neg h4] at h
      refine ⟨h0, by simpa using h1, h2, ?_, ?_, h⟩
      ·
       by_cases e : (t.get c.side).bat c.slot = c.name
       ·
        exact .inl e
       ·
        exact .inr fun hm => h3 ⟨e, hm⟩
      ·
       intro he
       by_cases hn : ((t.made c).get c.side).p.Nodup
       ·
        exact hn
       ·
        exact absurd ⟨he, hn⟩ h4
 ·
  rw [if_pos h0] at h; exact absurd h h0
theorem ccLoop_pairs : ∀ (l : List Chg) (t : Tms) (known : List Str) (prev : Option Chg), ccLoop t known prev l = 0 →
 (∀ b, prev = some b → ∀ c ∈ l, after c b = true) ∧ l.Pairwise (fun a b => after b a = true)
 | [], _, _, _, _ => ⟨by simp, .nil⟩
 | c :: r, t, known, prev, h => by
  obtain ⟨_, h1, _, _, _, h5⟩ := ccLoop_cons h
  obtain ⟨i1, i2⟩ := ccLoop_pairs r _ _ _ h5
  refine ⟨?_, List.Pairwise.cons (fun b hb => i1 c rfl b hb) i2⟩
  rintro b rfl x hx
  have hcb : after c b = true := by simpa [late] using h1
  rcases List.mem_cons.1 hx with rfl | hx
  ·
   exact hcb
  ·
   exact after_trans (i1 c rfl x hx) hcb
theorem cc_sorted {t : Tms} {l : List Chg} (h : checkChanges t l = 0) : l.Pairwise (fun a b => after b a = true) := (ccLoop_pairs _ _ _ _ (cc_parts h).2.2.2).2
theorem plays_sorted {l : List Chg} (h : l.Pairwise (fun a b => after b a = true)) : l.Pairwise (fun a b => a.play ≤ b.play) := h.imp fun h => after_play h

theorem nodup_set {α : Type} {l : List α} (h : l.Nodup) (k : Nat) (hk : k < l.length) (x : α) (hx : x = l[k] ∨ x ∉ l) : (l.set k x).Nodup := by
 rcases hx with rfl | hx
 ·
  rw [List.set_getElem_self]; exact h
 ·
  rw [List.nodup_iff_pairwise_ne, List.pairwise_iff_getElem] at h ⊢
  intro i j hi hj hij
  rw [List.length_set] at hi hj
  rw [List.getElem_set, List.getElem_set]
  by_cases e1 : k = i
  ·
   by_cases e2 : k = j
   ·
    omega
   ·
    rw [if_pos e1, if_neg e2]; intro e; exact hx (e ▸ List.getElem_mem hj)
  ·
   by_cases e2 : k = j
   ·
    rw [if_neg e1, if_pos e2]; intro e; exact hx (e ▸ List.getElem_mem hi)
   ·
    rw [if_neg e1, if_neg e2]; exact h i j hi hj hij
/-- all names of teams, those of side 0 first -/
def Tms.all (t : Tms) : List Str := t.l0.b ++ t.l1.b
theorem bat_get (X : LU) (hX : X.ok) (slot : Int) (h1 : 1 ≤ slot) (h9 : slot ≤ 9) : ∃ k, ∃ hk : k < X.b.length, (slot - 1).toNat = k ∧ X.bat slot = X.b[k] := by
 have hk : (slot - 1).toNat < X.b.length := by rw [hX.1]; omega
 exact ⟨_, hk, rfl, by unfold LU.bat; rw [List.getD_eq_getElem?_getD, List.getElem?_eq_getElem hk]; rfl⟩
theorem made_all (t : Tms) (ht : t.ok) (c : Chg) (hc : c.okS) : ∃ k, ∃ hk : k < t.all.length, (t.made c).all = t.all.set k c.name ∧ (t.get c.side).bat c.slot = t.all[k] := by
 obtain ⟨hs, h1, h9⟩ := hc
 rcases hs with h0 | h0
 ·
  obtain ⟨k, hk, e, hb⟩ := bat_get t.l0 ht.1 c.slot h1 h9
  refine ⟨k, by simp only [Tms.all, List.length_append]; omega, ?_, ?_⟩
  ·
   simp only [Tms.made, h0, if_true, Tms.all, LU.made, e]
   rw [List.set_append_left _ _ hk]
  ·
   simp only [Tms.get, h0, if_true, hb, Tms.all]
   rw [List.getElem_append_left hk]
 ·
  have hne : ¬ (1 : Int) = 0 := by decide
  obtain ⟨k, hk, e, hb⟩ := bat_get t.l1 ht.2 c.slot h1 h9
  refine ⟨t.l0.b.length + k, by simp only [Tms.all, List.length_append]; omega, ?_, ?_⟩
  ·
   simp only [Tms.made, h0, if_neg hne, Tms.all, LU.made, e]
   rw [List.set_append_right _ _ (by omega)]
   congr 2; omega
  ·
   simp only [Tms.get, h0, if_neg hne, hb, Tms.all]
   rw [List.getElem_append_right (by omega)]
   congr 1; omega
theorem mem_set {α : Type} {l : List α} {k : Nat} {x s : α} (h : s ∈ l.set k x) : s ∈ l ∨ s = x := (List.mem_or_eq_of_mem_set h)
theorem get_made_same (t : Tms) (c : Chg) (hs : c.side = 0 ∨ c.side = 1) : (t.made c).get c.side = (t.get c.side).made c.slot c.name c.pos := by
 rcases hs with h | h <;> simp [Tms.made, Tms.get, h]
theorem get_made_other (t : Tms) (c : Chg) (hs : c.side = 0 ∨ c.side = 1) (side : Int) (h2 : side = 0 ∨ side = 1) (hne : side ≠ c.side) : (t.made c).get side = t.get side := by
 rcases hs with h | h <;> rcases h2 with e | e <;> simp [Tms.made, Tms.get, h, e] <;> omega

/-- the state of teams within the changes of a valid game: the names that were there, the change before, the changes to come -/
structure Run (t : Tms) (known : List Str) (prev : Option Chg) (l : List Chg) : Prop where
 ok : t.ok
 cc : ccLoop t known prev l = 0
 nd : t.all.Nodup
 kn : ∀ s ∈ t.all, s ∈ known
 nm : ∀ s ∈ t.all, isName s = true
 rg : ∀ side, side = 0 ∨ side = 1 → ∀ n ∈ (t.get side).p, 1 ≤ n ∧ n ≤ 9
 pm : ∀ side, side = 0 ∨ side = 1 → (t.get side).p.Nodup ∨ ∃ b c r, prev = some b ∧ l = c :: r ∧ c.play = b.play ∧ c.side = b.side ∧ b.side = side
theorem Run.step {t : Tms} {known : List Str} {prev : Option Chg} {c : Chg} {r : List Chg} (h : Run t known prev (c :: r)) : Run (t.made c) (known ++ [c.name]) (some c) r := by
 obtain ⟨c0, _, _, c3, c4, c5⟩ := ccLoop_cons h.cc
 have hC := checkC_zero c0
 have hs := okS_of c0
 obtain ⟨k, hk, e1, e2⟩ := made_all t h.ok c hs
 refine ⟨Tms.made_ok' t h.ok c, c5, ?_, ?_, ?_, ?_, ?_⟩
 ·
  rw [e1]
  refine nodup_set h.nd k hk c.name ?_
  rcases c3 with c3 | c3
  ·
   exact .inl (by rw [← c3, e2])
  ·
   exact .inr fun hm => c3 (h.kn _ hm)
 ·
  intro s hm
  rw [e1] at hm
  rcases mem_set hm with hm | rfl
  ·
   exact List.mem_append_left _ (h.kn s hm)
  ·
   simp
 ·
  intro s hm
  rw [e1] at hm
  rcases mem_set hm with hm | rfl
  ·
   exact h.nm s hm
  ·
   exact hC.2.2.2.2
 ·
  intro side h2 n hn
  by_cases he : side = c.side
  ·
   subst he
   rw [get_made_same t c hs.1] at hn
   rcases mem_set (show n ∈ (t.get c.side).p.set (c.slot - 1).toNat c.pos from hn) with hn | rfl
   ·
    exact h.rg _ h2 n hn
   ·
    exact hC.2.2.2.1
  ·
   rw [get_made_other t c hs.1 side h2 he] at hn
   exact h.rg side h2 n hn
 ·
  intro side h2
  by_cases he : side = c.side
  ·
   subst he
   by_cases hE : ends c r = true
   ·
    exact .inl (c4 hE)
   ·
    cases r with
    | nil => simp [ends] at hE
    | cons n r' =>
     refine .inr ⟨c, n, r', rfl, rfl, ?_⟩
     simp [ends] at hE
     exact ⟨hE.1, hE.2, rfl⟩
  ·
   rw [get_made_other t c hs.1 side h2 he]
   rcases h.pm side h2 with hp | ⟨b, c', r', _, e, _, e3, e4⟩
   ·
    exact .inl hp
   ·
    injection e with e _
    subst e
    exact absurd (e3.trans e4).symm he
theorem Run.start {t : Tms} {l : List Chg} (ht : t.ok) (h : checkChanges t l = 0) : Run t t.all none l := by
 obtain ⟨h0, _, _, h3⟩ := cc_parts h
 have hg := checkTeams_zero h0
 refine ⟨ht, h3, ?_, fun _ h => h, ?_, ?_, ?_⟩
 ·
  unfold Tms.all
  rw [List.nodup_append]
  exact ⟨hg.g0.once, hg.g1.once, fun a ha b hb e => hg.apart a ha (e ▸ hb)⟩
 ·
  intro s hs
  rcases List.mem_append.1 hs with hs | hs
  ·
   exact hg.g0.names s hs
  ·
   exact hg.g1.names s hs
 ·
  rintro side (rfl | rfl)
  ·
   exact hg.g0.range
  ·
   exact hg.g1.range
 ·
  rintro side (rfl | rfl)
  ·
   exact .inl hg.g0.perm
  ·
   exact .inl hg.g1.perm
/-- teams that are valid -/
structure Tms.fine (t : Tms) : Prop where
 ok : t.ok
 nd : t.all.Nodup
 nm : ∀ s ∈ t.all, isName s = true
 rg : ∀ side, side = 0 ∨ side = 1 → ∀ n ∈ (t.get side).p, 1 ≤ n ∧ n ≤ 9
 pm : ∀ side, side = 0 ∨ side = 1 → (t.get side).p.Nodup
theorem Run.at_ : ∀ {l : List Chg} {t : Tms} {known : List Str} {prev : Option Chg} (n : Int), Run t known prev l → (∀ b, prev = some b → b.play ≤ n) → (atL t l n).fine
 | [], t, known, prev, n, h, _ => by
  refine ⟨h.ok, h.nd, h.nm, h.rg, fun side h2 => ?_⟩
  rcases h.pm side h2 with hp | ⟨b, c, r, _, e, _⟩
  ·
   exact hp
  ·
   cases e
 | c :: r, t, known, prev, n, h, hp => by
  unfold atL
  by_cases hc : n < c.play
  ·
   rw [if_pos hc]
   refine ⟨h.ok, h.nd, h.nm, h.rg, fun side h2 => ?_⟩
   rcases h.pm side h2 with hp' | ⟨b, c', r', e0, e, e2, _⟩
   ·
    exact hp'
   ·
    injection e with e _
    subst e
    have := hp b e0
    omega
  ·
   rw [if_neg hc]
   exact Run.at_ n h.step (fun b e => by injection e with e; subst e; omega)
theorem at_fine {t : Tms} {l : List Chg} (ht : t.ok) (h : checkChanges t l = 0) (n : Int) : (atL t l n).fine := (Run.start ht h).at_ n (fun _ e => by cases e)
/-- the reference's way to the teams at a play -/
def atAll : Tms → List Chg → Int → Tms
 | t, [], _ => t
 | t, c :: r, n => if c.play ≤ n then atAll (t.made c) r n else atAll t r n
theorem atAll_none : ∀ (l : List Chg) (t : Tms) (n : Int), (∀ c ∈ l, n < c.play) → atAll t l n = t
 | [], _, _, _ => rfl
 | c :: r, t, n, h => by
  have hc := h c (by simp)
  unfold atAll
  rw [if_neg (by omega)]
  exact atAll_none r t n fun d hd => h d (List.mem_cons_of_mem _ hd)
theorem atAll_eq : ∀ (l : List Chg) (t : Tms) (n : Int), l.Pairwise (fun a b => a.play ≤ b.play) → atAll t l n = atL t l n
 | [], _, _, _ => rfl
 | c :: r, t, n, h => by
  rw [List.pairwise_cons] at h
  unfold atAll atL
  by_cases hc : n < c.play
  ·
   rw [if_neg (by omega), if_pos hc]
   exact atAll_none r t n fun d hd => by have := h.1 d hd; omega
  ·
   rw [if_pos (by omega), if_neg hc]
   exact atAll_eq r _ n h.2
end L
end Go.Proofs.YtmagppkclnebjaaGreatDoor

namespace Go.Proofs.YtmagppkclnebjaaGreatDoor
namespace L

/-- who has a slot, and where -/
def Tms.who (t : Tms) (side slot : Int) : Str × Int := ((t.get side).bat slot, (t.get side).at_ slot)
/-- the stints S are those of the plays from a to n, where h says who is there -/
def Cov (h : Nat → Str × Int) (side slot : Int) (n : Nat) : Nat → List Sti → Prop
 | a, [] => a = n
 | a, s :: S => ∃ b, a < b ∧ b ≤ n ∧ s = ⟨side, slot, (h a).2, (h a).1, a, b⟩ ∧ (∀ k, a ≤ k → k < b → h k = h a) ∧ (b < n → h b ≠ h a) ∧ Cov h side slot n b S
theorem Cov.le {h : Nat → Str × Int} {side slot : Int} {n : Nat} : ∀ {S : List Sti} {a : Nat}, Cov h side slot n a S → a ≤ n
 | [], _, hc => Nat.le_of_eq hc
 | _ :: _, _, ⟨_, h1, h2, _⟩ => by omega
theorem Cov.congr {h h' : Nat → Str × Int} {side slot : Int} {n : Nat} : ∀ {S : List Sti} {a : Nat}, Cov h side slot n a S → (∀ k, a ≤ k → k < n → h k = h' k) → Cov h' side slot n a S
 | [], _, hc, _ => hc
 | s :: S, a, ⟨b, h1, h2, h3, h4, h5, h6⟩, he => by
  have ea := he a (Nat.le_refl _) (by omega)
  refine ⟨b, h1, h2, by rw [h3, ea], fun k hk hb => by rw [← he k hk (by omega), ← ea]; exact h4 k hk hb, fun hb => by rw [← he b (by omega) hb, ← ea]; exact h5 hb, h6.congr fun k hk hn => he k (by omega) hn⟩
theorem Cov.unique {h : Nat → Str × Int} {side slot : Int} {n : Nat} : ∀ {S S' : List Sti} {a : Nat}, Cov h side slot n a S → Cov h side slot n a S' → S = S'
 | [], [], _, _, _ => rfl
 | [], _ :: _, _, h1, ⟨b, h2, h3, _⟩ => by unfold Cov at h1; omega
 | _ :: _, [], _, ⟨b, h2, h3, _⟩, h1 => by unfold Cov at h1; omega
 | s :: S, s' :: S', a, ⟨b, h1, h2, h3, h4, h5, h6⟩, ⟨b', g1, g2, g3, g4, g5, g6⟩ => by
  have e : b = b' := by
   rcases Nat.lt_trichotomy b b' with hl | he | hl
   ·
    exact absurd (g4 b (by omega) hl) (h5 (by omega))
   ·
    exact he
   ·
    exact absurd (h4 b' (by omega) hl) (g5 (by omega))
  subst e
  rw [h3, g3, Cov.unique h6 g6]
theorem atL_early (t : Tms) (l : List Chg) (n : Int) (h : ∀ c ∈ l, n < c.play) : atL t l n = t := by
 cases l with
 | nil => rfl
 | cons c r => unfold atL; rw [if_pos (h c (by simp))]
theorem stLoop_nil (n side slot : Int) (now : Sti) : stLoop n side slot now [] = if now.fr < n then [{ now with to := n }] else [] := rfl
theorem stLoop_cons (n side slot : Int) (now : Sti) (c : Chg) (r : List Chg) : stLoop n side slot now (c :: r) = if c.side ≠ side ∨ c.slot ≠ slot ∨ n ≤ c.play then stLoop n side slot now r
 else (if now.fr < c.play then [{ now with to := c.play }] else []) ++ stLoop n side slot ⟨side, slot, c.pos, c.name, c.play, 0⟩ r := rfl
/-- who has a slot at each play -/
def hwo (t : Tms) (l : List Chg) (side slot : Int) (k : Nat) : Str × Int := (atL t l k).who side slot
theorem atL_no {t : Tms} {c : Chg} {r : List Chg} {n : Int} (h : n < c.play) : atL t (c :: r) n = t := by rw [atL, if_pos h]
theorem atL_yes {t : Tms} {c : Chg} {r : List Chg} {n : Int} (h : ¬ n < c.play) : atL t (c :: r) n = atL (t.made c) r n := by rw [atL, if_neg h]
theorem stLoop_late (n side slot : Int) : ∀ (l : List Chg) (now : Sti), (∀ c ∈ l, n ≤ c.play) → stLoop n side slot now l = stLoop n side slot now []
 | [], _, _ => rfl
 | c :: r, now, h => by
  rw [stLoop_cons, if_pos (Or.inr (Or.inr (h c (by simp))))]
  exact stLoop_late n side slot r now fun d hd => h d (List.mem_cons_of_mem _ hd)
theorem getD_set_ne {α : Type} (l : List α) (i j : Nat) (x d : α) (h : i ≠ j) : (l.set i x).getD j d = l.getD j d := by
 simp [List.getD, List.getElem?_set_ne h]
theorem getD_set_eq {α : Type} (l : List α) (i : Nat) (x d : α) (h : i < l.length) : (l.set i x).getD i d = x := by
 simp [List.getD, List.getElem?_set_self h]
theorem who_made_other (t : Tms) (c : Chg) (hc : c.okS) (side slot : Int) (h2 : side = 0 ∨ side = 1) (hs : 1 ≤ slot ∧ slot ≤ 9) (hne : c.side ≠ side ∨ c.slot ≠ slot) : (t.made c).who side slot = t.who side slot := by
 by_cases he : side = c.side
 ·
  subst he
  have hsl : c.slot ≠ slot := by rcases hne with h | h; exact absurd rfl h; exact h
  obtain ⟨_, h1, h9⟩ := hc
  unfold Tms.who
  rw [get_made_same t c h2]
  unfold LU.made LU.bat LU.at_
  have hk : (c.slot - 1).toNat ≠ (slot - 1).toNat := by omega
  rw [getD_set_ne _ _ _ _ _ hk, getD_set_ne _ _ _ _ _ hk]
 ·
  unfold Tms.who
  rw [get_made_other t c hc.1 side h2 he]
theorem who_made_same (t : Tms) (ht : t.ok) (c : Chg) (hc : c.okS) : (t.made c).who c.side c.slot = (c.name, c.pos) := by
 obtain ⟨hs, h1, h9⟩ := hc
 have hok : (t.get c.side).ok := Tms.get_ok t ht c.side
 unfold Tms.who
 rw [get_made_same t c hs]
 unfold LU.made LU.bat LU.at_
 rw [getD_set_eq _ _ _ _ (by rw [hok.1]; omega), getD_set_eq _ _ _ _ (by rw [hok.2]; omega)]
/-- no change of a slot among those up to n: who has it stays -/
theorem who_at_still (side slot : Int) (h2 : side = 0 ∨ side = 1) (hs : 1 ≤ slot ∧ slot ≤ 9) (n : Int) : ∀ (l : List Chg) (t : Tms), (∀ c ∈ l, c.okS) → (∀ c ∈ l, c.side = side → c.slot = slot → n < c.play) → (atL t l n).who side slot = t.who side slot
 | [], _, _, _ => rfl
 | c :: r, t, hok, h => by
  unfold atL
  by_cases hc : n < c.play
  ·
   rw [if_pos hc]
  ·
   rw [if_neg hc, who_at_still side slot h2 hs n r _ (fun d hd => hok d (List.mem_cons_of_mem _ hd)) (fun d hd => h d (List.mem_cons_of_mem _ hd))]
   refine who_made_other t c (hok c (by simp)) side slot h2 hs ?_
   by_cases e1 : c.side = side
   ·
    by_cases e2 : c.slot = slot
    ·
     exact absurd (h c (by simp) e1 e2) hc
    ·
     exact .inr e2
   ·
    exact .inl e1
theorem stLoop_cov (side slot : Int) (h2 : side = 0 ∨ side = 1) (hs : 1 ≤ slot ∧ slot ≤ 9) (n : Nat) : ∀ (l : List Chg) (t : Tms) (known : List Str) (prev : Option Chg) (a : Nat) (x : Int), Run t known prev l → a ≤ n → (∀ c ∈ l, (a : Int) ≤ c.play) →
 Cov (hwo t l side slot) side slot n a (stLoop n side slot ⟨side, slot, (t.get side).at_ slot, (t.get side).bat slot, a, x⟩ l)
 | [], t, known, prev, a, x, hr, ha, hl => by
  rw [stLoop_nil]
  by_cases hn : (a : Int) < (n : Int)
  ·
   rw [if_pos hn]
   exact ⟨n, by omega, Nat.le_refl _, rfl, fun _ _ _ => rfl, fun h => by omega, rfl⟩
  ·
   rw [if_neg hn]
   show a = n
   omega
 | c :: r, t, known, prev, a, x, hr, ha, hl => by
  obtain ⟨c0, _, c2, _, _, c5⟩ := ccLoop_cons hr.cc
  have hok := okS_of c0
  have hpairs := (ccLoop_pairs _ _ _ _ c5).1 c rfl
  have hrp : ∀ d ∈ r, c.play ≤ d.play := fun d hd => after_play (hpairs d hd)
  have hac := hl c (by simp)
  have hC := checkC_zero c0
  by_cases hlate : (n : Int) ≤ c.play
  ·
   have hlate' : ∀ d ∈ c :: r, (n : Int) ≤ d.play := fun d hd => by
    rcases List.mem_cons.1 hd with rfl | hd
    ·
     exact hlate
    ·
     have := hrp d hd; omega
   rw [stLoop_late _ _ _ _ _ hlate', stLoop_nil]
   have hst : ∀ k : Nat, k < n → hwo t (c :: r) side slot k = t.who side slot := fun k hk => by
    unfold hwo
    rw [atL_no (by omega)]
   by_cases hn : (a : Int) < (n : Int)
   ·
    rw [if_pos hn]
    refine ⟨n, by omega, Nat.le_refl _, ?_, fun k hk hb => by rw [hst k (by omega), hst a (by omega)], fun h => by omega, rfl⟩
    rw [hst a (by omega)]; rfl
   ·
    rw [if_neg hn]
    show a = n
    omega
  ·
   by_cases hrel : c.side ≠ side ∨ c.slot ≠ slot
   ·
    have hw := who_made_other t c hok side slot h2 hs hrel
    rw [stLoop_cons, if_pos (by rcases hrel with h | h; exact .inl h; exact .inr (.inl h))]
    have ih := stLoop_cov side slot h2 hs n r (t.made c) (known ++ [c.name]) (some c) a x hr.step ha (fun d hd => by have := hrp d hd; omega)
    have e1 : ((t.made c).get side).bat slot = (t.get side).bat slot := congrArg Prod.fst hw
    have e2 : ((t.made c).get side).at_ slot = (t.get side).at_ slot := congrArg Prod.snd hw
    rw [e1, e2] at ih
    refine ih.congr fun k hk hn => ?_
    unfold hwo
    by_cases hkc : (k : Int) < c.play
    ·
     rw [atL_early (t.made c) r k fun d hd => by have := hrp d hd; omega, hw, atL_no hkc]
    ·
     rw [atL_yes hkc]
   ·
    have e1 : c.side = side := by
     by_cases e : c.side = side
     ·
      exact e
     ·
      exact absurd (.inl e) hrel
    have e2 : c.slot = slot := by
     by_cases e : c.slot = slot
     ·
      exact e
     ·
      exact absurd (.inr e) hrel
    subst e1; subst e2
    obtain ⟨b, hb⟩ : ∃ b : Nat, c.play = b := ⟨c.play.toNat, by omega⟩
    rw [stLoop_cons, if_neg (by rintro (h | h | h); exact h rfl; exact h rfl; exact hlate h)]
    have hw := who_made_same t hr.ok c hok
    have ih := stLoop_cov c.side c.slot h2 hs n r (t.made c) (known ++ [c.name]) (some c) b 0 hr.step (by omega) (fun d hd => by have := hrp d hd; omega)
    have w1 : ((t.made c).get c.side).bat c.slot = c.name := congrArg Prod.fst hw
    have w2 : ((t.made c).get c.side).at_ c.slot = c.pos := congrArg Prod.snd hw
    rw [w1, w2, ← hb] at ih
    have ihc : Cov (hwo t (c :: r) c.side c.slot) c.side c.slot n b (stLoop n c.side c.slot ⟨c.side, c.slot, c.pos, c.name, c.play, 0⟩ r) := ih.congr fun k hk hn => by
     unfold hwo
     rw [atL_yes (by omega)]
    have hst : ∀ k : Nat, k < b → hwo t (c :: r) c.side c.slot k = t.who c.side c.slot := fun k hk => by
     unfold hwo
     rw [atL_no (by omega)]
    show Cov _ _ _ _ a ((if (a : Int) < c.play then [_] else []) ++ _)
    by_cases hab : (a : Int) < c.play
    ·
     rw [if_pos hab]
     refine ⟨b, by omega, by omega, ?_, fun k hk hkb => by rw [hst k hkb, hst a (by omega)], fun hbn => ?_, ihc⟩
     ·
      rw [hst a (by omega), ← hb]; rfl
     ·
      rw [hst a (by omega)]
      unfold hwo
      rw [atL_yes (by omega), who_at_still c.side c.slot h2 hs b r (t.made c) (fun d hd => okS_of (ccLoop_zero r _ _ _ c5 d hd)) (fun d hd s1 s2 => by
       have := hpairs d hd
       rw [after_iff] at this; omega), hw]
      intro e
      refine c2 ⟨(congrArg Prod.fst e).symm, (congrArg Prod.snd e).symm⟩
    ·
     rw [if_neg hab]
     have : b = a := by omega
     subst this
     exact ihc
theorem stints_cov {t : Tms} {l : List Chg} (ht : t.ok) (h : checkChanges t l = 0) (side slot : Int) (h2 : side = 0 ∨ side = 1) (hs : 1 ≤ slot ∧ slot ≤ 9) (n : Nat) :
 Cov (hwo t l side slot) side slot n 0 (stintsL t l n side slot) :=
 stLoop_cov side slot h2 hs n l t t.all none 0 0 (Run.start ht h) (Nat.zero_le _) (fun c hc => (checkC_zero ((cc_parts h).2.2.1 c hc)).2.1.1)

/-- the reference's step at one play -/
def refStep (h : Nat → Str × Int) (side slot : Int) (k : Nat) (out : List Sti) : List Sti :=
 match out.getLast? with
 | some s => if s.name = (h k).1 ∧ s.pos = (h k).2 then out.dropLast ++ [{ s with to := k + 1 }] else out ++ [⟨side, slot, (h k).2, (h k).1, k, k + 1⟩]
 | none => out ++ [⟨side, slot, (h k).2, (h k).1, k, k + 1⟩]
def refSt (h : Nat → Str × Int) (side slot : Int) : Nat → List Sti
 | 0 => []
 | k + 1 => refStep h side slot k (refSt h side slot k)
theorem refStep_cons (h : Nat → Str × Int) (side slot : Int) (k : Nat) (s s' : Sti) (S : List Sti) : refStep h side slot k (s :: s' :: S) = s :: refStep h side slot k (s' :: S) := by
 unfold refStep
 rw [List.getLast?_cons_cons]
 cases hl : (s' :: S).getLast? with
 | none => simp at hl
 | some z =>
  simp only []
  split
  ·
   rw [List.dropLast_cons_cons]; rfl
  ·
   rfl
theorem refStep_cov (h : Nat → Str × Int) (side slot : Int) (k : Nat) : ∀ (S : List Sti) (a : Nat), S ≠ [] → Cov h side slot k a S → Cov h side slot (k + 1) a (refStep h side slot k S)
 | [], _, hne, _ => absurd rfl hne
 | [s], a, _, ⟨b, h1, h2, h3, h4, h5, h6⟩ => by
  have hb : b = k := h6
  subst hb
  unfold refStep
  simp only [List.getLast?_singleton]
  by_cases e : s.name = (h b).1 ∧ s.pos = (h b).2
  ·
   rw [if_pos e]
   have he : h b = h a := by
    rw [h3] at e
    exact Prod.ext e.1.symm e.2.symm
   refine ⟨b + 1, by omega, Nat.le_refl _, by rw [h3]; rfl, fun k' hk hb => ?_, fun hb => by omega, rfl⟩
   rcases Nat.lt_succ_iff_lt_or_eq.1 hb with hb | rfl
   ·
    exact h4 k' hk hb
   ·
    exact he
  ·
   rw [if_neg e]
   refine ⟨b, h1, by omega, h3, h4, fun _ he => e (by rw [h3]; exact ⟨congrArg Prod.fst he.symm, congrArg Prod.snd he.symm⟩), b + 1, by omega, Nat.le_refl _, rfl, fun k' hk hb => ?_, fun hb => by omega, rfl⟩
   have : k' = b := by omega
   rw [this]
 | s :: s' :: S, a, _, ⟨b, h1, h2, h3, h4, h5, h6⟩ => by
  rw [refStep_cons]
  have hbk : b < k := by
   obtain ⟨b', g1, g2, _⟩ := h6
   omega
  exact ⟨b, h1, by omega, h3, h4, fun _ => h5 hbk, refStep_cov h side slot k (s' :: S) b (by simp) h6⟩
theorem refSt_cov (h : Nat → Str × Int) (side slot : Int) : ∀ n, Cov h side slot n 0 (refSt h side slot n)
 | 0 => rfl
 | n + 1 => by
  by_cases hz : n = 0
  ·
   subst hz
   refine ⟨1, by omega, Nat.le_refl _, rfl, fun k hk hb => ?_, fun hb => by omega, rfl⟩
   have : k = 0 := by omega
   rw [this]
  ·
   have ih := refSt_cov h side slot n
   refine refStep_cov h side slot n _ 0 (fun e => ?_) ih
   rw [e] at ih
   exact hz ih.symm
theorem stints_ref {t : Tms} {l : List Chg} (ht : t.ok) (h : checkChanges t l = 0) (side slot : Int) (h2 : side = 0 ∨ side = 1) (hs : 1 ≤ slot ∧ slot ≤ 9) (n : Nat) :
 stintsL t l n side slot = refSt (hwo t l side slot) side slot n :=
 (stints_cov ht h side slot h2 hs n).unique (refSt_cov _ side slot n)
end L
end Go.Proofs.YtmagppkclnebjaaGreatDoor

namespace Go.Proofs.YtmagppkclnebjaaGreatDoor
namespace L

theorem range'_cut (a b n : Nat) (h1 : a ≤ b) (h2 : b ≤ n) : List.range' a (n - a) = List.range' a (b - a) ++ List.range' b (n - b) := by
 have e : n - a = (b - a) + (n - b) := by omega
 rw [e, ← List.range'_append_1]
 congr 2; omega
theorem countP_const {p : Nat → Bool} (v : Bool) : ∀ (m a : Nat), (∀ k, a ≤ k → k < a + m → p k = v) → (List.range' a m).countP p = if v then m else 0
 | 0, a, _ => by cases v <;> rfl
 | m + 1, a, h => by
  rw [List.range'_succ, List.countP_cons, countP_const v m (a + 1) (fun k hk hm => h k (by omega) (by omega)), h a (Nat.le_refl _) (by omega)]
  cases v <;> simp
theorem cov_sum (h : Nat → Str × Int) (side slot : Int) (name : Str) (n : Nat) : ∀ (S : List Sti) (a : Nat), Cov h side slot n a S →
 (S.map fun s => if s.name = name then s.to - s.fr else 0).sum = ((List.range' a (n - a)).countP (fun k => decide ((h k).1 = name)) : Nat)
 | [], a, hc => by
  have : a = n := hc
  subst this
  simp
 | s :: S, a, ⟨b, h1, h2, h3, h4, h5, h6⟩ => by
  rw [List.map_cons, List.sum_cons, cov_sum h side slot name n S b h6, range'_cut a b n (by omega) h2, List.countP_append,
   countP_const (decide ((h a).1 = name)) (b - a) a (fun k hk hb => by rw [h4 k hk (by omega)]), h3]
  by_cases e : (h a).1 = name
  ·
   simp [e]; omega
  ·
   simp [e]
theorem sum_add (J : List Nat) (f g : Nat → Nat) : (J.map fun j => f j + g j).sum = (J.map f).sum + (J.map g).sum := by
 induction J with
 | nil => rfl
 | cons j J ih => simp only [List.map_cons, List.sum_cons, ih]; omega
theorem sum_ind (J : List Nat) (p : Nat → Bool) : (J.map fun j => if p j then 1 else 0).sum = J.countP p := by
 induction J with
 | nil => rfl
 | cons j J ih => simp only [List.map_cons, List.sum_cons, ih, List.countP_cons]; omega
theorem sum_swap (J : List Nat) (p : Nat → Nat → Bool) : ∀ n, (J.map fun j => (List.range n).countP (p j)).sum = ((List.range n).map fun k => J.countP (fun j => p j k)).sum
 | 0 => by simp only [List.range_zero, List.countP_nil, List.map_nil, List.sum_nil]; induction J with
  | nil => rfl
  | cons j J ih => simpa using ih
 | n + 1 => by
  rw [List.range_succ, List.map_append, List.sum_append, ← sum_swap J p n, List.map_singleton, List.sum_singleton, ← sum_ind, ← sum_add]
  congr 1
  apply List.map_congr_left
  intro j _
  rw [List.countP_append]
  simp [List.countP_cons]
theorem range_getD (l : List Str) (n : Nat) (h : l.length = n) : (List.range n).map (fun j => l.getD j .empty) = l := by
 apply List.ext_getElem?
 intro i
 by_cases hi : i < n
 ·
  simp [hi, List.getD, List.getElem?_eq_getElem (show i < l.length by omega)]
 ·
  simp [hi, List.getElem?_eq_none (show l.length ≤ i by omega)]
theorem count_slots (l : List Str) (h : l.length = 9) (name : Str) : (List.range 9).countP (fun j => decide (l.getD j .empty = name)) = l.countP (fun s => decide (s = name)) := by
 have := range_getD l 9 h
 conv => rhs; rw [← this]
 rw [List.countP_map]; rfl
theorem count_nodup (l : List Str) (h : l.Nodup) (name : Str) : l.countP (fun s => decide (s = name)) = if name ∈ l then 1 else 0 := by
 induction l with
 | nil => rfl
 | cons s r ih =>
  rw [List.nodup_cons] at h
  rw [List.countP_cons, ih h.2]
  by_cases e : s = name
  ·
   subst e; simp [h.1]
  ·
   have : name ≠ s := fun h => e h.symm
   simp [e, this]
theorem sumOf_append (a b : List Sti) (name : Str) : sumOf (a ++ b) name = sumOf a name + sumOf b name := by simp [sumOf]
theorem sumOf_flatMap (f : Nat → List Sti) (name : Str) : ∀ J : List Nat, sumOf (J.flatMap f) name = (J.map fun j => sumOf (f j) name).sum
 | [] => rfl
 | j :: J => by rw [List.flatMap_cons, sumOf_append, sumOf_flatMap f name J, List.map_cons, List.sum_cons]
theorem sum_cast (J : List Nat) (f : Nat → Nat) : (J.map fun j => ((f j : Nat) : Int)).sum = ((J.map f).sum : Nat) := by
 induction J with
 | nil => rfl
 | cons j J ih => simp only [List.map_cons, List.sum_cons, ih]; omega
theorem side_sum {t : Tms} {l : List Chg} (ht : t.ok) (h : checkChanges t l = 0) (side : Int) (h2 : side = 0 ∨ side = 1) (name : Str) (n : Nat) :
 sumOf (sideL t l n side 9) name = (((List.range n).map fun (k : Nat) => ((atL t l k).get side).b.countP (fun s => decide (s = name))).sum : Nat) := by
 have hj : ∀ j : Nat, j < 9 → sumOf (stintsL t l n side ((j : Int) + 1)) name = ((List.range n).countP (fun (k : Nat) => decide (((atL t l k).get side).b.getD j .empty = name)) : Nat) := fun j hj => by
  have hc := cov_sum _ side ((j : Int) + 1) name n _ 0 (stints_cov ht h side ((j : Int) + 1) h2 (by omega) n)
  have e0 : List.range' 0 (n - 0) = List.range n := by rw [Nat.sub_zero, List.range_eq_range']
  rw [e0] at hc
  have e : sumOf (stintsL t l n side ((j : Int) + 1)) name = ((stintsL t l n side ((j : Int) + 1)).map fun s => if s.name = name then s.to - s.fr else 0).sum := rfl
  rw [e, hc]
  congr 2
  funext k
  have : ((j : Int) + 1 - 1).toNat = j := by omega
  unfold hwo Tms.who LU.bat
  rw [this]
 unfold sideL
 rw [sumOf_flatMap]
 have e1 : ((List.range 9).map fun (j : Nat) => sumOf (stintsL t l n side ((j : Int) + 1)) name) = (List.range 9).map fun (j : Nat) => ((List.range n).countP (fun (k : Nat) => decide (((atL t l k).get side).b.getD j .empty = name)) : Int) :=
  List.map_congr_left fun j hm => hj j (List.mem_range.1 hm)
 rw [e1, sum_cast, sum_swap (List.range 9) (fun (j k : Nat) => decide (((atL t l k).get side).b.getD j .empty = name)) n]
 congr 2
 apply List.map_congr_left
 intro k _
 exact count_slots _ (Tms.get_ok _ (atL_ok l t k ht) side).1 name
/-- the reference's count -/
def playedN (t : Tms) (l : List Chg) (name : Str) (n : Nat) : Nat := (List.range n).countP fun (k : Nat) => decide (name ∈ (atL t l k).l0.b) || decide (name ∈ (atL t l k).l1.b)
theorem played_ref {t : Tms} {l : List Chg} (ht : t.ok) (h : checkChanges t l = 0) (name : Str) (n : Nat) : sumOf (allL t l n) name = playedN t l name n := by
 unfold allL
 rw [sumOf_append, side_sum ht h 0 (.inl rfl), side_sum ht h 1 (.inr rfl)]
 unfold playedN
 rw [← sum_ind, ← Int.natCast_add, ← sum_add]
 congr 2
 apply List.map_congr_left
 intro k _
 have hf := at_fine ht h k
 have hall : ((atL t l k).get 0).b ++ ((atL t l k).get 1).b = (atL t l k).all := rfl
 have hnd := hf.nd
 rw [← List.countP_append, hall, count_nodup _ hnd]
 unfold Tms.all
 by_cases e0 : name ∈ (atL t l k).l0.b <;> by_cases e1 : name ∈ (atL t l k).l1.b <;> simp [e0, e1]
end L
end Go.Proofs.YtmagppkclnebjaaGreatDoor

namespace Go.Proofs.YtmagppkclnebjaaGreatDoor
namespace L

def pitRef (A : List Sti) (side : Int) (n : Nat) : List Sti := (List.range n).flatMap fun (p : Nat) => A.filter fun s => s.side == side && s.pos == 1 && s.fr == (p : Int)
theorem eq_of_sorted : ∀ (A B : List Sti), A.Pairwise (fun x y => x.fr < y.fr) → B.Pairwise (fun x y => x.fr < y.fr) → (∀ s, s ∈ A ↔ s ∈ B) → A = B
 | [], [], _, _, _ => rfl
 | [], b :: B, _, _, h => by have := (h b).2 (by simp); simp at this
 | a :: A, [], _, _, h => by have := (h a).1 (by simp); simp at this
 | a :: A, b :: B, hA, hB, h => by
  rw [List.pairwise_cons] at hA hB
  have e : a = b := by
   rcases List.mem_cons.1 ((h a).1 (by simp)) with e | h1
   ·
    exact e
   ·
    rcases List.mem_cons.1 ((h b).2 (by simp)) with e | h2
    ·
     exact e.symm
    ·
     have := hA.1 b h2; have := hB.1 a h1; omega
  subst e
  rw [eq_of_sorted A B hA.2 hB.2 fun s => ?_]
  constructor
  ·
   intro hs
   rcases List.mem_cons.1 ((h s).1 (List.mem_cons_of_mem _ hs)) with e | h1
   ·
    subst e; have := hA.1 s hs; omega
   ·
    exact h1
  ·
   intro hs
   rcases List.mem_cons.1 ((h s).2 (List.mem_cons_of_mem _ hs)) with e | h1
   ·
    subst e; have := hB.1 s hs; omega
   ·
    exact h1
theorem cov_mem {h : Nat → Str × Int} {side slot : Int} {n : Nat} : ∀ {S : List Sti} {a : Nat}, Cov h side slot n a S → ∀ s ∈ S, ∃ k, a ≤ k ∧ k < n ∧ s.fr = (k : Int) ∧ s.side = side ∧ s.slot = slot ∧ s.pos = (h k).2 ∧ s.name = (h k).1
 | [], _, _, s, hs => by simp at hs
 | s :: S, a, ⟨b, h1, h2, h3, h4, h5, h6⟩, x, hx => by
  rcases List.mem_cons.1 hx with rfl | hx
  ·
   exact ⟨a, Nat.le_refl _, by omega, by rw [h3], by rw [h3], by rw [h3], by rw [h3], by rw [h3]⟩
  ·
   obtain ⟨k, g1, g2, g3⟩ := cov_mem h6 x hx
   exact ⟨k, by omega, g2, g3⟩
theorem cov_pair {h : Nat → Str × Int} {side slot : Int} {n : Nat} : ∀ {S : List Sti} {a : Nat}, Cov h side slot n a S → S.Pairwise (fun x y => x.fr < y.fr)
 | [], _, _ => .nil
 | s :: S, a, ⟨b, h1, h2, h3, h4, h5, h6⟩ => by
  refine List.Pairwise.cons (fun x hx => ?_) (cov_pair h6)
  obtain ⟨k, g1, _, g3, _⟩ := cov_mem h6 x hx
  rw [g3, h3]
  show (a : Int) < k
  omega
theorem nodup_getD {α : Type} {l : List α} (h : l.Nodup) {i j : Nat} (d : α) (hi : i < l.length) (hj : j < l.length) (e : l.getD i d = l.getD j d) : i = j := by
 simp only [List.getD, List.getElem?_eq_getElem hi, List.getElem?_eq_getElem hj, Option.getD_some] at e
 exact (List.getElem_inj h).1 e
/-- two pitchers' stints of a side begin at different plays -/
def apartFr (x y : Sti) : Prop := x.side = y.side → x.pos = 1 → y.pos = 1 → x.fr ≠ y.fr
section
variable {t : Tms} {l : List Chg} (ht : t.ok) (h : checkChanges t l = 0)
include ht h
theorem side_mem (side : Int) (h2 : side = 0 ∨ side = 1) (n : Nat) (s : Sti) (hs : s ∈ sideL t l n side 9) : s.side = side ∧ ∃ j k : Nat, j < 9 ∧ k < n ∧ s.fr = k ∧ s.slot = (j : Int) + 1 ∧ s.pos = ((atL t l k).get side).p.getD j 0 ∧ s ∈ stintsL t l n side ((j : Int) + 1) := by
 unfold sideL at hs
 rw [List.mem_flatMap] at hs
 obtain ⟨j, hj, hs⟩ := hs
 have hj9 := List.mem_range.1 hj
 obtain ⟨k, _, g2, g3, g4, g5, g6, g7⟩ := cov_mem (stints_cov ht h side ((j : Int) + 1) h2 (by omega) n) s hs
 refine ⟨g4, j, k, hj9, g2, g3, g5, ?_, hs⟩
 rw [g6]
 have : ((j : Int) + 1 - 1).toNat = j := by omega
 show ((atL t l k).get side).p.getD ((j : Int) + 1 - 1).toNat 0 = _
 rw [this]
theorem side_apart (side : Int) (h2 : side = 0 ∨ side = 1) (n : Nat) : (sideL t l n side 9).Pairwise apartFr := by
 unfold sideL
 rw [List.pairwise_flatMap]
 refine ⟨fun j hj => ?_, ?_⟩
 ·
  have hj9 := List.mem_range.1 hj
  refine (cov_pair (stints_cov ht h side ((j : Int) + 1) h2 (by omega) n)).imp fun {a b} hab => ?_
  intro _ _ _; omega
 ·
  refine (List.pairwise_lt_range (n := 9)).imp_of_mem fun {i j} hi hj hij => ?_
  intro x hx y hy _ hp1 hp2 hfr
  have hi9 := List.mem_range.1 hi
  have hj9 := List.mem_range.1 hj
  obtain ⟨k, _, _, g3, _, _, g6, _⟩ := cov_mem (stints_cov ht h side ((i : Int) + 1) h2 (by omega) n) x hx
  obtain ⟨k', _, _, f3, _, _, f6, _⟩ := cov_mem (stints_cov ht h side ((j : Int) + 1) h2 (by omega) n) y hy
  have hk : k = k' := by omega
  subst hk
  have hf := at_fine ht h k
  have hl := (Tms.get_ok _ hf.ok side).2
  have e1 : ((i : Int) + 1 - 1).toNat = i := by omega
  have e2 : ((j : Int) + 1 - 1).toNat = j := by omega
  have p1 : ((atL t l k).get side).p.getD i 0 = 1 := by rw [← hp1, g6]; show _ = ((atL t l k).get side).p.getD ((i : Int) + 1 - 1).toNat 0; rw [e1]
  have p2 : ((atL t l k).get side).p.getD j 0 = 1 := by rw [← hp2, f6]; show _ = ((atL t l k).get side).p.getD ((j : Int) + 1 - 1).toNat 0; rw [e2]
  have := nodup_getD (hf.pm side h2) 0 (show i < _ by rw [hl]; exact hi9) (show j < _ by rw [hl]; exact hj9) (p1.trans p2.symm)
  omega
theorem all_apart (n : Nat) : (allL t l n).Pairwise apartFr := by
 unfold allL
 rw [List.pairwise_append]
 refine ⟨side_apart ht h 0 (.inl rfl) n, side_apart ht h 1 (.inr rfl) n, fun x hx y hy e => ?_⟩
 have h1 := (side_mem ht h 0 (.inl rfl) n x hx).1
 have h2 := (side_mem ht h 1 (.inr rfl) n y hy).1
 omega
theorem all_fr (n : Nat) (s : Sti) (hs : s ∈ allL t l n) : ∃ k : Nat, k < n ∧ s.fr = k := by
 unfold allL at hs
 rcases List.mem_append.1 hs with hs | hs
 ·
  obtain ⟨_, j, k, _, h1, h2, _⟩ := side_mem ht h 0 (.inl rfl) n s hs
  exact ⟨k, h1, h2⟩
 ·
  obtain ⟨_, j, k, _, h1, h2, _⟩ := side_mem ht h 1 (.inr rfl) n s hs
  exact ⟨k, h1, h2⟩
theorem pit_sorted (side : Int) (n : Nat) : (pitRef (allL t l n) side n).Pairwise (fun x y => x.fr < y.fr) := by
 unfold pitRef
 rw [List.pairwise_flatMap]
 refine ⟨fun p hp => ?_, ?_⟩
 ·
  have hA := (all_apart ht h n).filter (fun s => s.side == side && s.pos == 1 && s.fr == (p : Int))
  refine hA.imp_of_mem fun {x y} hx hy hxy => ?_
  rw [List.mem_filter] at hx hy
  simp only [Bool.and_eq_true, beq_iff_eq] at hx hy
  exact absurd (hx.2.2.trans hy.2.2.symm) (hxy (hx.2.1.1.trans hy.2.1.1.symm) hx.2.1.2 hy.2.1.2)
 ·
  refine (List.pairwise_lt_range (n := n)).imp fun {i j} hij => ?_
  intro x hx y hy
  rw [List.mem_filter] at hx hy
  simp only [Bool.and_eq_true, beq_iff_eq] at hx hy
  omega
theorem pitchers_eq (side : Int) (n : Nat) (S : List Sti) (hp : S.Perm (pitchersOf (allL t l n) side)) (hs : S.Pairwise (fun a b => a.fr ≤ b.fr)) : S = pitRef (allL t l n) side n := by
 have hm : ∀ s, s ∈ S ↔ s ∈ allL t l n ∧ s.side = side ∧ s.pos = 1 := fun s => by
  rw [hp.mem_iff]
  unfold pitchersOf
  rw [List.mem_filter]
  simp
 have hP : (pitchersOf (allL t l n) side).Pairwise (fun x y => x.fr ≠ y.fr) := by
  unfold pitchersOf
  refine ((all_apart ht h n).filter _).imp_of_mem fun {x y} hx hy hxy => ?_
  rw [List.mem_filter] at hx hy
  simp at hx hy
  exact hxy (hx.2.1.trans hy.2.1.symm) hx.2.2 hy.2.2
 have hS : S.Pairwise (fun x y => x.fr ≠ y.fr) := (hp.symm.pairwise_iff (fun h e => h e.symm)).1 hP
 refine eq_of_sorted _ _ ?_ (pit_sorted ht h side n) fun s => ?_
 ·
  exact (hs.and hS).imp fun ⟨a, b⟩ => by omega
 ·
  rw [hm]
  unfold pitRef
  rw [List.mem_flatMap]
  constructor
  ·
   rintro ⟨h1, h2, h3⟩
   obtain ⟨k, hk, hf⟩ := all_fr ht h n s h1
   exact ⟨k, List.mem_range.2 hk, List.mem_filter.2 ⟨h1, by simp [h2, h3, hf]⟩⟩
  ·
   rintro ⟨k, _, hf⟩
   rw [List.mem_filter] at hf
   simp only [Bool.and_eq_true, beq_iff_eq] at hf
   exact ⟨hf.1, hf.2.1.1, hf.2.1.2⟩
end
theorem stLoop_pit (n side slot : Int) : ∀ (l : List Chg) (now : Sti), (stLoop n side slot now l).countP (fun s => decide (s.pos = 1)) ≤ (if now.pos = 1 then 1 else 0) + l.countP (fun c => decide (c.side = side) && decide (c.slot = slot))
 | [], now => by
  rw [stLoop]
  split
  ·
   rw [List.countP_singleton]; simp
  ·
   simp
 | c :: r, now => by
  rw [stLoop]
  split
  ·
   have := stLoop_pit n side slot r now
   rw [List.countP_cons]; omega
  ·
   rename_i hc
   have ih := stLoop_pit n side slot r ⟨side, slot, c.pos, c.name, c.play, 0⟩
   have e1 : c.side = side := by
    by_cases e : c.side = side
    ·
     exact e
    ·
     exact absurd (.inl e) hc
   have e2 : c.slot = slot := by
    by_cases e : c.slot = slot
    ·
     exact e
    ·
     exact absurd (.inr (.inl e)) hc
   rw [List.countP_append, List.countP_cons]
   have h1 : (if now.fr < c.play then [({ now with to := c.play } : Sti)] else []).countP (fun s => decide (s.pos = 1)) ≤ if now.pos = 1 then 1 else 0 := by
    split
    ·
     rw [List.countP_singleton]; simp
    ·
     simp
   have h2 : (if c.pos = 1 then 1 else 0 : Nat) ≤ 1 := by split <;> omega
   simp only [e1, e2, decide_true, Bool.and_true, if_true] at ih ⊢
   omega
theorem sum_le (J : List Nat) (f g : Nat → Nat) (h : ∀ j ∈ J, f j ≤ g j) : (J.map f).sum ≤ (J.map g).sum := by
 induction J with
 | nil => exact Nat.le_refl _
 | cons j J ih =>
  have h1 := h j (by simp)
  have h2 := ih fun k hk => h k (List.mem_cons_of_mem _ hk)
  simp only [List.map_cons, List.sum_cons]; omega
theorem slots_le (side : Int) : ∀ l : List Chg, ((List.range 9).map fun (j : Nat) => l.countP (fun c => decide (c.side = side) && decide (c.slot = (j : Int) + 1))).sum ≤ l.length
 | [] => by simp only [List.countP_nil, List.length_nil]; decide
 | c :: r => by
  have ih := slots_le side r
  have e : ((List.range 9).map fun (j : Nat) => (c :: r).countP (fun c => decide (c.side = side) && decide (c.slot = (j : Int) + 1))).sum
   = ((List.range 9).map fun (j : Nat) => r.countP (fun c => decide (c.side = side) && decide (c.slot = (j : Int) + 1))).sum + (List.range 9).countP (fun (j : Nat) => decide (c.side = side) && decide (c.slot = (j : Int) + 1)) := by
   rw [← sum_ind, ← sum_add]
   congr 1
   apply List.map_congr_left
   intro j _
   rw [List.countP_cons]
  rw [e, List.length_cons]
  have : (List.range 9).countP (fun (j : Nat) => decide (c.side = side) && decide (c.slot = (j : Int) + 1)) ≤ 1 := by
   have hn : (List.range 9).Nodup := List.nodup_range
   have : (List.range 9).countP (fun (j : Nat) => decide (c.side = side) && decide (c.slot = (j : Int) + 1)) ≤ (List.range 9).countP (fun (j : Nat) => decide (j = (c.slot - 1).toNat)) := by
    refine List.countP_mono_left fun j _ hj => ?_
    simp only [Bool.and_eq_true, decide_eq_true_eq] at hj ⊢
    omega
   refine Nat.le_trans this ?_
   generalize (c.slot - 1).toNat = m
   have key : ∀ (L : List Nat), L.Nodup → L.countP (fun (j : Nat) => decide (j = m)) ≤ 1 := fun L hL => by
    induction L with
    | nil => simp
    | cons a L ih =>
     rw [List.nodup_cons] at hL
     rw [List.countP_cons]
     by_cases e : a = m
     ·
      subst e
      have : L.countP (fun (j : Nat) => decide (j = a)) = 0 := by
       rw [List.countP_eq_zero]
       intro x hx; simp; rintro rfl; exact hL.1 hx
      simp [this]
     ·
      have := ih hL.2
      simp [e]; exact this
   exact key _ hn
  omega
theorem flat_countP (f : Nat → List Sti) (p : Sti → Bool) : ∀ J : List Nat, (J.flatMap f).countP p = (J.map fun (j : Nat) => (f j).countP p).sum
 | [] => rfl
 | j :: J => by rw [List.flatMap_cons, List.countP_append, flat_countP f p J, List.map_cons, List.sum_cons]
theorem pit_few {t : Tms} {l : List Chg} (ht : t.ok) (h : checkChanges t l = 0) (side : Int) (h2 : side = 0 ∨ side = 1) (n : Nat) : (pitchersOf (allL t l n) side).length ≤ 1 + l.length := by
 have hpos : ∀ sd, sd = 0 ∨ sd = 1 → (sideL t l n sd 9).countP (fun s => decide (s.pos = 1)) ≤ 1 + l.length := fun sd hsd => by
  unfold sideL
  rw [flat_countP]
  refine Nat.le_trans (sum_le _ _ (fun (j : Nat) => (if ((t.get sd).p.getD j 0) = 1 then 1 else 0) + l.countP (fun c => decide (c.side = sd) && decide (c.slot = (j : Int) + 1))) fun j hj => ?_) ?_
  ·
   have := stLoop_pit n sd ((j : Int) + 1) l ⟨sd, (j : Int) + 1, (t.get sd).at_ ((j : Int) + 1), (t.get sd).bat ((j : Int) + 1), 0, 0⟩
   have e : ((j : Int) + 1 - 1).toNat = j := by omega
   have e2 : (t.get sd).at_ ((j : Int) + 1) = (t.get sd).p.getD j 0 := by unfold LU.at_; rw [e]
   rw [e2] at this
   unfold stintsL
   rw [e2]
   exact this
  ·
   rw [sum_add]
   have h9 := slots_le sd l
   have hnd : (t.get sd).p.Nodup := by
    have hg := checkTeams_zero (cc_parts h).1
    rcases hsd with rfl | rfl
    ·
     exact hg.g0.perm
    ·
     exact hg.g1.perm
   have hl9 := (Tms.get_ok t ht sd).2
   have e3 : ((List.range 9).map fun (j : Nat) => if ((t.get sd).p.getD j 0) = 1 then 1 else 0).sum = (List.range 9).countP (fun (j : Nat) => decide ((t.get sd).p.getD j 0 = 1)) := by
    rw [← sum_ind]; congr 1; apply List.map_congr_left; intro j _; by_cases e : (t.get sd).p.getD j 0 = 1 <;> simp
   have h1 : (List.range 9).countP (fun (j : Nat) => decide ((t.get sd).p.getD j 0 = 1)) ≤ 1 := by
    have key : ∀ (L : List Nat), L.Nodup → (∀ j ∈ L, j < 9) → L.countP (fun (j : Nat) => decide ((t.get sd).p.getD j 0 = 1)) ≤ 1 := fun L => by
     induction L with
     | nil => intro _ _; simp
     | cons a L ih =>
      intro hL hb
      rw [List.nodup_cons] at hL
      rw [List.countP_cons]
      by_cases e : (t.get sd).p.getD a 0 = 1
      ·
       have : L.countP (fun (j : Nat) => decide ((t.get sd).p.getD j 0 = 1)) = 0 := by
        rw [List.countP_eq_zero]
        intro x hx
        simp only [decide_eq_true_eq]
        intro ex
        have := nodup_getD hnd 0 (show a < _ by rw [hl9]; exact hb a (by simp)) (show x < _ by rw [hl9]; exact hb x (List.mem_cons_of_mem _ hx)) (e.trans ex.symm)
        subst this
        exact hL.1 hx
       rw [this]; split <;> omega
      ·
       have := ih hL.2 fun j hj => hb j (List.mem_cons_of_mem _ hj)
       rw [if_neg (by simpa using e)]; omega
    exact key _ List.nodup_range fun j hj => List.mem_range.1 hj
   omega
 unfold pitchersOf allL
 rw [List.filter_append, List.length_append, ← List.countP_eq_length_filter, ← List.countP_eq_length_filter]
 have hz : ∀ sd, (sd = 0 ∨ sd = 1) → sd ≠ side → (sideL t l n sd 9).countP (fun s => !(s.side != side || s.pos != 1)) = 0 := fun sd hsd hne => by
  rw [List.countP_eq_zero]
  intro s hs
  have := (side_mem ht h sd hsd n s hs).1
  simp
  intro e; omega
 have hle : ∀ sd, (sideL t l n sd 9).countP (fun s => !(s.side != side || s.pos != 1)) ≤ (sideL t l n sd 9).countP (fun s => decide (s.pos = 1)) := fun sd => by
  refine List.countP_mono_left fun s _ hs => ?_
  simp at hs ⊢
  exact hs.2
 have a0 := hpos 0 (.inl rfl); have a1 := hpos 1 (.inr rfl); have b0 := hle 0; have b1 := hle 1
 rcases h2 with rfl | rfl
 ·
  have := hz 1 (.inr rfl) (by decide); omega
 ·
  have := hz 0 (.inl rfl) (by decide); omega
end L
end Go.Proofs.YtmagppkclnebjaaGreatDoor

namespace Go.Proofs.YtmagppkclnebjaaGreatDoor
namespace L

def Chg.less (c : Chg) (p : Int) : Chg := { c with play := c.play - p }
def Chg.other (c : Chg) : Chg := { c with side := 1 - c.side }
/-- the program's rest: what lies behind the first change from play p on -/
def restL (l : List Chg) (p : Int) : List Chg := ((if idxF (fun c : Chg => decide (p ≤ c.play)) l < 0 then [] else l.drop (idxF (fun c : Chg => decide (p ≤ c.play)) l).toNat)).map (·.less p)
/-- the reference's -/
def restR (l : List Chg) (p : Int) : List Chg := (l.filter fun c => decide (p ≤ c.play)).map (·.less p)
theorem idxF_cons {α : Type} (q : α → Bool) (a : α) (l : List α) : idxF q (a :: l) = if q a then 0 else if idxF q l < 0 then -1 else idxF q l + 1 := by
 unfold idxF
 rw [List.findIdx?_cons]
 cases q a
 ·
  cases l.findIdx? q <;> simp <;> omega
 ·
  simp
theorem rest_eq : ∀ (l : List Chg) (p : Int), l.Pairwise (fun a b => a.play ≤ b.play) → restL l p = restR l p
 | [], p, _ => by simp [restL, restR, idxF]
 | c :: r, p, h => by
  rw [List.pairwise_cons] at h
  have ih := rest_eq r p h.2
  unfold restL restR at ih ⊢
  rw [idxF_cons]
  by_cases hc : p ≤ c.play
  ·
   have hall : ∀ d ∈ c :: r, decide (p ≤ d.play) = true := fun d hd => by
    rcases List.mem_cons.1 hd with rfl | hd
    ·
     simpa using hc
    ·
     have := h.1 d hd; simp; omega
   rw [List.filter_eq_self.2 hall]
   simp [hc]
  ·
   rw [List.filter_cons_of_neg (by simpa using hc), ← ih]
   simp only [decide_eq_true_eq, if_neg hc]
   by_cases hn : idxF (fun c : Chg => decide (p ≤ c.play)) r < 0
   ·
    simp [hn]
   ·
    rw [if_neg hn, if_neg hn, if_neg (by omega)]
    have : (idxF (fun c : Chg => decide (p ≤ c.play)) r + 1).toNat = (idxF (fun c : Chg => decide (p ≤ c.play)) r).toNat + 1 := by omega
    rw [this, List.drop_succ_cons]

def insC (c : Chg) : List Chg → List Chg
 | [] => [c]
 | d :: r => if after c d then d :: insC c r else c :: d :: r
def swapR (l : List Chg) : List Chg := l.foldl (fun out c => insC c.other out) []
theorem insC_perm (c : Chg) : ∀ l, (insC c l).Perm (c :: l)
 | [] => .refl _
 | d :: r => by
  unfold insC
  split
  ·
   exact ((insC_perm c r).cons d).trans (.swap c d r)
  ·
   exact .refl _
theorem after_total {a b : Chg} (h : a.play ≠ b.play ∨ a.side ≠ b.side ∨ a.slot ≠ b.slot) : after a b = true ∨ after b a = true := by
 rw [after_iff, after_iff]; omega
def sameKey (a b : Chg) : Prop := a.play = b.play ∧ a.side = b.side ∧ a.slot = b.slot
theorem insC_sorted (c : Chg) : ∀ l, l.Pairwise (fun a b => after b a = true) → (∀ d ∈ l, ¬ sameKey c d) → (insC c l).Pairwise (fun a b => after b a = true)
 | [], _, _ => List.pairwise_singleton _ _
 | d :: r, h, hk => by
  rw [List.pairwise_cons] at h
  unfold insC
  split
  ·
   rename_i hcd
   refine List.Pairwise.cons (fun x hx => ?_) (insC_sorted c r h.2 fun e he => hk e (List.mem_cons_of_mem _ he))
   rcases List.mem_cons.1 ((insC_perm c r).mem_iff.1 hx) with rfl | hx
   ·
    exact hcd
   ·
    exact h.1 x hx
  ·
   rename_i hcd
   have hdc : after d c = true := by
    rcases after_total (a := c) (b := d) (by have := hk d (by simp); unfold sameKey at this; omega) with h1 | h1
    ·
     exact absurd h1 hcd
    ·
     exact h1
   refine List.Pairwise.cons (fun x hx => ?_) (List.Pairwise.cons h.1 h.2)
   rcases List.mem_cons.1 hx with rfl | hx
   ·
    exact hdc
   ·
    exact after_trans (h.1 x hx) hdc
theorem foldl_ins : ∀ (l out : List Chg), (l.foldl (fun out c => insC c.other out) out).Perm (l.map Chg.other ++ out)
 | [], out => .refl _
 | c :: r, out => by
  refine (foldl_ins r (insC c.other out)).trans ?_
  rw [List.map_cons, List.cons_append]
  exact ((insC_perm c.other out).append_left _).trans List.perm_middle
theorem swapR_perm (l : List Chg) : (swapR l).Perm (l.map Chg.other) := by
 have := foldl_ins l []
 rwa [List.append_nil] at this
theorem foldl_sorted : ∀ (l out : List Chg), out.Pairwise (fun a b => after b a = true) → l.Pairwise (fun a b => ¬ sameKey a b) → (∀ c ∈ l, ∀ d ∈ out, ¬ sameKey c.other d) → (l.foldl (fun out c => insC c.other out) out).Pairwise (fun a b => after b a = true)
 | [], out, h, _, _ => h
 | c :: r, out, h, hl, hx => by
  rw [List.pairwise_cons] at hl
  refine foldl_sorted r _ (insC_sorted c.other out h (hx c (by simp))) hl.2 fun d hd e he => ?_
  rcases List.mem_cons.1 ((insC_perm c.other out).mem_iff.1 he) with rfl | he
  ·
   intro hk
   refine hl.1 d hd ?_
   unfold sameKey Chg.other at hk
   unfold sameKey
   simp only at hk
   omega
  ·
   exact hx d (List.mem_cons_of_mem _ hd) e he
theorem keys_of_sorted {l : List Chg} (h : l.Pairwise (fun a b => after b a = true)) : l.Pairwise (fun a b => ¬ sameKey a b) := h.imp fun {a b} hab hk => by
 rw [after_iff] at hab
 unfold sameKey at hk
 omega
theorem swapR_sorted {l : List Chg} (h : l.Pairwise (fun a b => after b a = true)) : (swapR l).Pairwise (fun a b => after b a = true) :=
 foldl_sorted l [] .nil (keys_of_sorted h) (by simp)
theorem eq_of_sortedC : ∀ (A B : List Chg), A.Pairwise (fun a b => after b a = true) → B.Pairwise (fun a b => after b a = true) → (∀ s, s ∈ A ↔ s ∈ B) → A = B
 | [], [], _, _, _ => rfl
 | [], b :: B, _, _, h => by have := (h b).2 (by simp); simp at this
 | a :: A, [], _, _, h => by have := (h a).1 (by simp); simp at this
 | a :: A, b :: B, hA, hB, h => by
  rw [List.pairwise_cons] at hA hB
  have key : ∀ x y : Chg, after x y = true → after y x = true → False := fun x y h1 h2 => by
   have := after_trans h1 h2
   rw [after_irrefl] at this; cases this
  have e : a = b := by
   rcases List.mem_cons.1 ((h a).1 (by simp)) with e | h1
   ·
    exact e
   ·
    rcases List.mem_cons.1 ((h b).2 (by simp)) with e | h2
    ·
     exact e.symm
    ·
     exact (key _ _ (hA.1 b h2) (hB.1 a h1)).elim
  subst e
  rw [eq_of_sortedC A B hA.2 hB.2 fun s => ?_]
  constructor
  ·
   intro hs
   rcases List.mem_cons.1 ((h s).1 (List.mem_cons_of_mem _ hs)) with e | h1
   ·
    subst e; have := hA.1 s hs; rw [after_irrefl] at this; cases this
   ·
    exact h1
  ·
   intro hs
   rcases List.mem_cons.1 ((h s).2 (List.mem_cons_of_mem _ hs)) with e | h1
   ·
    subst e; have := hB.1 s hs; rw [after_irrefl] at this; cases this
   ·
    exact h1
/-- a sort of the changed changes gives the reference's list -/
theorem swap_eq {l S : List Chg} (h : l.Pairwise (fun a b => after b a = true)) (hp : S.Perm (l.map Chg.other)) (hs : S.Pairwise (fun a b => after a b = false)) : S = swapR l := by
 refine eq_of_sortedC S (swapR l) ?_ (swapR_sorted h) fun s => (hp.trans (swapR_perm l).symm).mem_iff
 have hk : (swapR l).Pairwise (fun a b => ¬ sameKey a b) := keys_of_sorted (swapR_sorted h)
 have hkS : S.Pairwise (fun a b => ¬ sameKey a b) := ((swapR_perm l).trans hp.symm).pairwise_iff (fun {a b} h e => h ⟨e.1.symm, e.2.1.symm, e.2.2.symm⟩) |>.1 hk
 exact (hs.and hkS).imp fun {a b} ⟨h1, h2⟩ => by
  rcases after_total (a := a) (b := b) (by unfold sameKey at h2; omega) with h3 | h3
  ·
   rw [h1] at h3; cases h3
  ·
   exact h3
theorem other_other (c : Chg) : c.other.other = c := by
 unfold Chg.other
 have : 1 - (1 - c.side) = c.side := by omega
 simp [this]
theorem swap_swap {l : List Chg} (h : l.Pairwise (fun a b => after b a = true)) : swapR (swapR l) = l := by
 refine eq_of_sortedC _ _ (swapR_sorted (swapR_sorted h)) h fun s => ?_
 rw [(swapR_perm _).mem_iff]
 simp only [List.mem_map, (swapR_perm l).mem_iff]
 constructor
 ·
  rintro ⟨a, ⟨b, hb, rfl⟩, rfl⟩
  rw [other_other]; exact hb
 ·
  intro hs
  exact ⟨s.other, ⟨s, hs, rfl⟩, other_other s⟩
end L
end Go.Proofs.YtmagppkclnebjaaGreatDoor

namespace Go.Proofs.YtmagppkclnebjaaGreatDoor
namespace L

theorem clB_ok : ∀ (l seen : List Str), (∀ s ∈ l, isName s = true) → (seen ++ l).Nodup → clB seen l = 0
 | [], _, _, _ => rfl
 | s :: r, seen, h, hn => by
  have hs : s ∉ seen := fun hm => by
   rw [List.nodup_append] at hn
   exact hn.2.2 s hm s (by simp) rfl
  rw [clB, if_neg (by rw [h s (by simp)]; simp), if_neg hs]
  exact clB_ok r _ (fun x hx => h x (List.mem_cons_of_mem _ hx)) (by rw [List.append_assoc]; exact hn)
theorem clP_ok : ∀ (l seen : List Int), (∀ n ∈ l, 1 ≤ n ∧ n ≤ 9) → (seen ++ l).Nodup → clP seen l = 0
 | [], _, _, _ => rfl
 | s :: r, seen, h, hn => by
  have hs : s ∉ seen := fun hm => by
   rw [List.nodup_append] at hn
   exact hn.2.2 s hm s (by simp) rfl
  have h1 := h s (by simp)
  rw [clP, if_neg (by omega), if_neg hs]
  exact clP_ok r _ (fun x hx => h x (List.mem_cons_of_mem _ hx)) (by rw [List.append_assoc]; exact hn)
theorem lineup_ok {X : LU} (h1 : ∀ s ∈ X.b, isName s = true) (h2 : X.b.Nodup) (h3 : ∀ n ∈ X.p, 1 ≤ n ∧ n ≤ 9) (h4 : X.p.Nodup) : checkLineup X = 0 := by
 unfold checkLineup
 rw [clB_ok X.b [] h1 (by simpa using h2), clP_ok X.p [] h3 (by simpa using h4)]
 rfl
theorem fine_teams {t : Tms} (h : t.fine) : checkTeams t = 0 := by
 have hn := h.nd
 unfold Tms.all at hn
 rw [List.nodup_append] at hn
 have e0 : checkLineup t.l0 = 0 := lineup_ok (fun s hs => h.nm s (List.mem_append_left _ hs)) hn.1 (h.rg 0 (.inl rfl)) (h.pm 0 (.inl rfl))
 have e1 : checkLineup t.l1 = 0 := lineup_ok (fun s hs => h.nm s (List.mem_append_right _ hs)) hn.2.1 (h.rg 1 (.inr rfl)) (h.pm 1 (.inr rfl))
 have e2 : both t = false := by
  unfold both
  rw [Bool.eq_false_iff]
  intro hb
  rw [List.any_eq_true] at hb
  obtain ⟨s, hs, hs'⟩ := hb
  exact hn.2.2 s hs s (by simpa using hs') rfl
 unfold checkTeams
 rw [e0, e1, e2]
 rfl
theorem cc_of {t : Tms} {l : List Chg} (h1 : checkTeams t = 0) (h2 : l.length ≤ 64) (h3 : ccLoop t t.all none l = 0) : checkChanges t l = 0 := by
 unfold checkChanges
 have : decide (l.length > 64) = false := decide_eq_false (by omega)
 rw [h1, this]
 exact h3
/-- a game from a play on, within the run of its changes -/
theorem Run.rest : ∀ {l : List Chg} {t : Tms} {known : List Str} {prev : Option Chg} (m : Int), Run t known prev l → l.Pairwise (fun a b => a.play ≤ b.play) →
 ∃ known' prev', Run (atL t l m) known' prev' (l.filter fun c => decide (m < c.play))
 | [], t, known, prev, m, h, _ => ⟨known, prev, h⟩
 | c :: r, t, known, prev, m, h, hs => by
  rw [List.pairwise_cons] at hs
  unfold atL
  by_cases hc : m < c.play
  ·
   have hall : ∀ d ∈ c :: r, decide (m < d.play) = true := fun d hd => by
    rcases List.mem_cons.1 hd with rfl | hd
    ·
     simpa using hc
    ·
     have := hs.1 d hd; simp; omega
   rw [List.filter_eq_self.2 hall, if_pos hc]
   exact ⟨known, prev, h⟩
  ·
   rw [List.filter_cons_of_neg (by simpa using hc), if_neg hc]
   exact Run.rest m h.step hs.2
theorem made_less (t : Tms) (c : Chg) (p : Int) : t.made (c.less p) = t.made c := rfl
theorem ends_less (c : Chg) (r : List Chg) (p : Int) : ends (c.less p) (r.map (·.less p)) = ends c r := by
 cases r with
 | nil => rfl
 | cons n r =>
  simp only [List.map_cons, ends, Chg.less]
  congr 1
  rw [Bool.eq_iff_iff]
  simp only [bne_iff_ne, ne_eq]
  omega
theorem checkC_of {c : Chg} (h1 : c.side = 0 ∨ c.side = 1) (h2 : 0 ≤ c.play ∧ c.play ≤ 256) (h3 : 1 ≤ c.slot ∧ c.slot ≤ 9) (h4 : 1 ≤ c.pos ∧ c.pos ≤ 9) (h5 : isName c.name = true) : checkC c = 0 := by
 have e1 : sidedE c.side = 0 := by rcases h1 with h | h <;> simp [sidedE, whenE, h]
 have e2 : withinE c.play 0 256 = 0 := by
  have a : decide (c.play < 0) = false := decide_eq_false (by omega)
  have b : decide (c.play > 256) = false := decide_eq_false (by omega)
  simp [withinE, whenE, a, b]
 have e3 : withinE c.slot 1 9 = 0 := by
  have a : decide (c.slot < 1) = false := decide_eq_false (by omega)
  have b : decide (c.slot > 9) = false := decide_eq_false (by omega)
  simp [withinE, whenE, a, b]
 have e4 : withinE c.pos 1 9 = 0 := by
  have a : decide (c.pos < 1) = false := decide_eq_false (by omega)
  have b : decide (c.pos > 9) = false := decide_eq_false (by omega)
  simp [withinE, whenE, a, b]
 have e5 : namedE c.name = 0 := by simp [namedE, whenE, h5]
 simp [checkC, firstE, e1, e2, e3, e4, e5]
theorem cc_cons_iff (t : Tms) (known : List Str) (prev : Option Chg) (c : Chg) (r : List Chg) (h0 : checkC c = 0) (h1 : late c prev = false) :
 ccLoop t known prev (c :: r) = 0 ↔ ¬ ((t.get c.side).bat c.slot = c.name ∧ (t.get c.side).at_ c.slot = c.pos) ∧ ((t.get c.side).bat c.slot = c.name ∨ c.name ∉ known) ∧
  (ends c r = true → ((t.made c).get c.side).p.Nodup) ∧ ccLoop (t.made c) (known ++ [c.name]) (some c) r = 0 := by
 constructor
 ·
  intro h
  exact (ccLoop_cons h).2.2
 ·
  rintro ⟨h2, h3, h4, h5⟩
  rw [ccLoop, if_neg (by rw [h0]; simp), if_neg (by rw [h1]; simp), if_neg h2, if_neg, if_neg, h5]
  ·
   rintro ⟨he, hn⟩; exact hn (h4 he)
  ·
   rintro ⟨hne, hm⟩
   rcases h3 with h3 | h3
   ·
    exact hne h3
   ·
    exact h3 hm
theorem ccLoop_less (p : Int) (hp : 0 ≤ p) : ∀ (l : List Chg) (t : Tms) (known known2 : List Str) (prev prev2 : Option Chg), ccLoop t known prev l = 0 → (∀ c ∈ l, p ≤ c.play) → (∀ s ∈ known2, s ∈ known) →
 (∀ c ∈ l, late (c.less p) prev2 = false) → ccLoop t known2 prev2 (l.map (·.less p)) = 0
 | [], _, _, _, _, _, _, _, _, _ => rfl
 | c :: r, t, known, known2, prev, prev2, h, hpl, hk, hlate => by
  obtain ⟨h0, h1, h2, h3, h4, h5⟩ := ccLoop_cons h
  have hC := checkC_zero h0
  have hpc := hpl c (by simp)
  rw [List.map_cons]
  refine (cc_cons_iff t known2 prev2 (c.less p) _ (checkC_of hC.1 ?_ hC.2.2.1 hC.2.2.2.1 hC.2.2.2.2) (hlate c (by simp))).2 ⟨h2, ?_, ?_, ?_⟩
  ·
   show 0 ≤ c.play - p ∧ c.play - p ≤ 256
   omega
  ·
   rcases h3 with h3 | h3
   ·
    exact .inl h3
   ·
    exact .inr fun hm => h3 (hk _ hm)
  ·
   rw [ends_less]; exact h4
  ·
   refine ccLoop_less p hp r _ (known ++ [c.name]) _ (some c) _ h5 (fun d hd => hpl d (List.mem_cons_of_mem _ hd)) (fun s hs => ?_) (fun d hd => ?_)
   ·
    rcases List.mem_append.1 hs with hs | hs
    ·
     exact List.mem_append_left _ (hk s hs)
    ·
     exact List.mem_append_right _ hs
   ·
    have := (ccLoop_pairs _ _ _ _ h5).1 c rfl d hd
    have e : after (d.less p) (c.less p) = true := by
     rw [after_iff] at this ⊢
     simp only [Chg.less]
     omega
    simp [late, e]
theorem split_valid {t : Tms} {l : List Chg} (ht : t.ok) (h : checkChanges t l = 0) (p : Int) (hp : 0 ≤ p) : checkChanges (atL t l (p - 1)) (restR l p) = 0 := by
 have hs := plays_sorted (cc_sorted h)
 obtain ⟨known, prev, hr⟩ := (Run.start ht h).rest (p - 1) hs
 have hf : (l.filter fun c => decide (p - 1 < c.play)) = l.filter fun c => decide (p ≤ c.play) := by
  apply List.filter_congr
  intro c _
  rw [Bool.eq_iff_iff]; simp only [decide_eq_true_eq]; omega
 rw [hf] at hr
 refine cc_of (fine_teams (at_fine ht h (p - 1))) ?_ ?_
 ·
  unfold restR
  rw [List.length_map]
  exact Nat.le_trans (List.length_filter_le _ _) (cc_parts h).2.1
 ·
  exact ccLoop_less p hp _ _ known _ prev none hr.cc (fun c hc => by rw [List.mem_filter] at hc; simpa using hc.2) hr.kn (fun c _ => rfl)
theorem atL_rest : ∀ (l : List Chg) (t : Tms) (m n : Int), m ≤ n → l.Pairwise (fun a b => a.play ≤ b.play) → atL (atL t l m) (l.filter fun c => decide (m < c.play)) n = atL t l n
 | [], _, _, _, _, _ => rfl
 | c :: r, t, m, n, hmn, hs => by
  rw [List.pairwise_cons] at hs
  by_cases hc : m < c.play
  ·
   have hall : ∀ d ∈ c :: r, decide (m < d.play) = true := fun d hd => by
    rcases List.mem_cons.1 hd with rfl | hd
    ·
     simpa using hc
    ·
     have := hs.1 d hd; simp; omega
   rw [List.filter_eq_self.2 hall]
   have : atL t (c :: r) m = t := by rw [atL, if_pos hc]
   rw [this]
  ·
   rw [List.filter_cons_of_neg (by simpa using hc)]
   have e1 : atL t (c :: r) m = atL (t.made c) r m := by rw [atL, if_neg hc]
   have e2 : atL t (c :: r) n = atL (t.made c) r n := by rw [atL, if_neg (by omega)]
   rw [e1, e2]
   exact atL_rest r _ m n hmn hs.2
theorem atL_less (p : Int) : ∀ (l : List Chg) (t : Tms) (n : Int), atL t (l.map (·.less p)) n = atL t l (n + p)
 | [], _, _ => rfl
 | c :: r, t, n => by
  rw [List.map_cons, atL, atL, made_less, atL_less p r]
  have : n < (c.less p).play ↔ n + p < c.play := by show n < c.play - p ↔ _; omega
  simp only [this]
theorem split_at {t : Tms} {l : List Chg} (h : checkChanges t l = 0) (p n : Int) (hn : 0 ≤ n) : atL (atL t l (p - 1)) (restR l p) n = atL t l (p + n) := by
 have hs := plays_sorted (cc_sorted h)
 unfold restR
 have hf : (l.filter fun c => decide (p ≤ c.play)) = l.filter fun c => decide (p - 1 < c.play) := by
  apply List.filter_congr
  intro c _
  rw [Bool.eq_iff_iff]; simp only [decide_eq_true_eq]; omega
 rw [atL_less, hf, atL_rest l t (p - 1) (n + p) (by omega) hs, Int.add_comm]

/-! Both sides exchanged. -/
def ofSide (s : Int) (l : List Chg) : List Chg := l.filter fun c => c.side == s
def endsP (c : Chg) : List Chg → Bool
 | [] => true
 | n :: _ => n.play != c.play
def LU.mk1 (X : LU) (c : Chg) : LU := X.made c.slot c.name c.pos
def sideRun : LU → List Chg → Prop
 | _, [] => True
 | X, c :: r => ¬ (X.bat c.slot = c.name ∧ X.at_ c.slot = c.pos) ∧ (endsP c r = true → (X.mk1 c).p.Nodup) ∧ sideRun (X.mk1 c) r
def news : LU → List Chg → List Str
 | _, [] => []
 | X, c :: r => (if X.bat c.slot = c.name then [] else [c.name]) ++ news (X.mk1 c) r
theorem ends_side (c : Chg) (r : List Chg) (hp : ∀ d ∈ r, after d c = true) (hs : r.Pairwise (fun a b => after b a = true)) : ends c r = endsP c (ofSide c.side r) := by
 cases r with
 | nil => rfl
 | cons n r' =>
  rw [List.pairwise_cons] at hs
  have hn := hp n (by simp)
  rw [after_iff] at hn
  by_cases e : n.side = c.side
  ·
   have : ofSide c.side (n :: r') = n :: ofSide c.side r' := by unfold ofSide; rw [List.filter_cons_of_pos (by simpa using e)]
   rw [this]
   simp [ends, endsP, e]
  ·
   have h1 : ends c (n :: r') = true := by simp [ends, e]
   have h2 : ofSide c.side (n :: r') = ofSide c.side r' := by unfold ofSide; rw [List.filter_cons_of_neg (by simpa using e)]
   rw [h1, h2]
   cases hr : ofSide c.side r' with
   | nil => rfl
   | cons m r2 =>
    have hm : m ∈ ofSide c.side r' := by rw [hr]; simp
    unfold ofSide at hm
    rw [List.mem_filter] at hm
    have h3 := hs.1 m hm.1
    rw [after_iff] at h3
    have h4 : m.side = c.side := by simpa using hm.2
    have h5 : m.play ≠ c.play := by omega
    simp [endsP, h5]
theorem cc_iff : ∀ (l : List Chg) (t : Tms) (known : List Str) (prev : Option Chg), t.ok → (∀ c ∈ l, checkC c = 0) → l.Pairwise (fun a b => after b a = true) → (∀ s ∈ t.all, s ∈ known) → (∀ c ∈ l, late c prev = false) →
 (ccLoop t known prev l = 0 ↔ sideRun t.l0 (ofSide 0 l) ∧ sideRun t.l1 (ofSide 1 l) ∧ (news t.l0 (ofSide 0 l) ++ news t.l1 (ofSide 1 l)).Nodup ∧ ∀ s ∈ news t.l0 (ofSide 0 l) ++ news t.l1 (ofSide 1 l), s ∉ known)
 | [], _, _, _, _, _, _, _, _ => by simp [ccLoop, ofSide, sideRun, news]
 | c :: r, t, known, prev, ht, h0, hs, hk, hl => by
  rw [List.pairwise_cons] at hs
  have c0 := h0 c (by simp)
  have hC := checkC_zero c0
  obtain ⟨k, hkl, e1, e2⟩ := made_all t ht c (okS_of c0)
  rw [cc_cons_iff t known prev c r c0 (hl c (by simp)), cc_iff r (t.made c) (known ++ [c.name]) (some c) (Tms.made_ok' t ht c) (fun d hd => h0 d (List.mem_cons_of_mem _ hd)) hs.2 (fun s hm => by
   rw [e1] at hm
   rcases mem_set hm with hm | rfl
   ·
    exact List.mem_append_left _ (hk s hm)
   ·
    simp) (fun d hd => by simp [late, hs.1 d hd]), ends_side c r hs.1 hs.2]
  have hbk : (t.get c.side).bat c.slot = c.name → c.name ∈ known := fun e => hk _ (by rw [← e, e2]; exact List.getElem_mem hkl)
  rcases hC.1 with hz | hz
  ·
   have a1 : ofSide 0 (c :: r) = c :: ofSide 0 r := by unfold ofSide; rw [List.filter_cons_of_pos (by simp [hz])]
   have a2 : ofSide 1 (c :: r) = ofSide 1 r := by unfold ofSide; rw [List.filter_cons_of_neg (by simp [hz])]
   have a3 : (t.made c).l0 = t.l0.mk1 c := by simp [Tms.made, hz, LU.mk1]
   have a4 : (t.made c).l1 = t.l1 := by simp [Tms.made, hz]
   have a5 : t.get c.side = t.l0 := by simp [Tms.get, hz]
   have a6 : (t.made c).get c.side = t.l0.mk1 c := by rw [← a3]; simp [Tms.get, hz]
   rw [a5] at hbk
   rw [a1, a2, a3, a4, a5, a6, hz, sideRun, news]
   generalize news (t.l0.mk1 c) (ofSide 0 r) = N0
   generalize news t.l1 (ofSide 1 r) = N1
   by_cases hb : t.l0.bat c.slot = c.name
   ·
    have hmk := hbk hb
    rw [if_pos hb, List.nil_append]
    constructor
    ·
     rintro ⟨q1, q2, q3, q4, q5, q6, q7⟩
     exact ⟨⟨q1, q3, q4⟩, q5, q6, fun s hs hm => q7 s hs (List.mem_append_left _ hm)⟩
    ·
     rintro ⟨⟨q1, q3, q4⟩, q5, q6, q7⟩
     refine ⟨q1, .inl hb, q3, q4, q5, q6, fun s hs hm => ?_⟩
     rcases List.mem_append.1 hm with hm | hm
     ·
      exact q7 s hs hm
     ·
      have : s = c.name := by simpa using hm
      exact q7 s hs (this ▸ hmk)
   ·
    rw [if_neg hb, List.singleton_append, List.cons_append, List.nodup_cons]
    constructor
    ·
     rintro ⟨q1, q2, q3, q4, q5, q6, q7⟩
     refine ⟨⟨q1, q3, q4⟩, q5, ⟨fun hm => q7 _ hm (by simp), q6⟩, fun s hs hm => ?_⟩
     rcases List.mem_cons.1 hs with rfl | hs
     ·
      rcases q2 with q2 | q2
      ·
       exact hb q2
      ·
       exact q2 hm
     ·
      exact q7 s hs (List.mem_append_left _ hm)
    ·
     rintro ⟨⟨q1, q3, q4⟩, q5, ⟨q6, q6'⟩, q7⟩
     refine ⟨q1, .inr (q7 _ (by simp)), q3, q4, q5, q6', fun s hs hm => ?_⟩
     rcases List.mem_append.1 hm with hm | hm
     ·
      exact q7 s (List.mem_cons_of_mem _ hs) hm
     ·
      have : s = c.name := by simpa using hm
      exact q6 (this ▸ hs)
  ·
   have a1 : ofSide 1 (c :: r) = c :: ofSide 1 r := by unfold ofSide; rw [List.filter_cons_of_pos (by simp [hz])]
   have a2 : ofSide 0 (c :: r) = ofSide 0 r := by unfold ofSide; rw [List.filter_cons_of_neg (by simp [hz])]
   have a3 : (t.made c).l1 = t.l1.mk1 c := by simp [Tms.made, hz, LU.mk1]
   have a4 : (t.made c).l0 = t.l0 := by simp [Tms.made, hz]
   have a5 : t.get c.side = t.l1 := by simp [Tms.get, hz]
   have a6 : (t.made c).get c.side = t.l1.mk1 c := by rw [← a3]; simp [Tms.get, hz]
   rw [a5] at hbk
   rw [a1, a2, a3, a4, a5, a6, hz, sideRun, news]
   generalize news t.l0 (ofSide 0 r) = N0
   generalize news (t.l1.mk1 c) (ofSide 1 r) = N1
   by_cases hb : t.l1.bat c.slot = c.name
   ·
    have hmk := hbk hb
    rw [if_pos hb, List.nil_append]
    constructor
    ·
     rintro ⟨q1, q2, q3, q4, q5, q6, q7⟩
     exact ⟨q4, ⟨q1, q3, q5⟩, q6, fun s hs hm => q7 s hs (List.mem_append_left _ hm)⟩
    ·
     rintro ⟨q4, ⟨q1, q3, q5⟩, q6, q7⟩
     refine ⟨q1, .inl hb, q3, q4, q5, q6, fun s hs hm => ?_⟩
     rcases List.mem_append.1 hm with hm | hm
     ·
      exact q7 s hs hm
     ·
      have : s = c.name := by simpa using hm
      exact q7 s hs (this ▸ hmk)
   ·
    have hpm : (N0 ++ ([c.name] ++ N1)).Perm (c.name :: (N0 ++ N1)) := List.perm_middle
    rw [if_neg hb, hpm.nodup_iff, List.nodup_cons]
    have hmem : (∀ s ∈ N0 ++ ([c.name] ++ N1), s ∉ known) ↔ ∀ s ∈ c.name :: (N0 ++ N1), s ∉ known := by
     constructor
     ·
      intro h s hs; exact h s (hpm.mem_iff.2 hs)
     ·
      intro h s hs; exact h s (hpm.mem_iff.1 hs)
    rw [hmem]
    constructor
    ·
     rintro ⟨q1, q2, q3, q4, q5, q6, q7⟩
     refine ⟨q4, ⟨q1, q3, q5⟩, ⟨fun hm => q7 _ hm (by simp), q6⟩, fun s hs hm => ?_⟩
     rcases List.mem_cons.1 hs with rfl | hs
     ·
      rcases q2 with q2 | q2
      ·
       exact hb q2
      ·
       exact q2 hm
     ·
      exact q7 s hs (List.mem_append_left _ hm)
    ·
     rintro ⟨q4, ⟨q1, q3, q5⟩, ⟨q6, q6'⟩, q7⟩
     refine ⟨q1, .inr (q7 _ (by simp)), q3, q4, q5, q6', fun s hs hm => ?_⟩
     rcases List.mem_append.1 hm with hm | hm
     ·
      exact q7 s (List.mem_cons_of_mem _ hs) hm
     ·
      have : s = c.name := by simpa using hm
      exact q6 (this ▸ hs)
def Tms.swap (t : Tms) : Tms := ⟨t.l1, t.l0⟩
theorem side_swap {l : List Chg} (h : l.Pairwise (fun a b => after b a = true)) (s : Int) : ofSide s (swapR l) = (ofSide (1 - s) l).map Chg.other := by
 have hs1 : (ofSide s (swapR l)).Pairwise (fun a b => after b a = true) := (swapR_sorted h).filter _
 have hs2 : ((ofSide (1 - s) l).map Chg.other).Pairwise (fun a b => after b a = true) := by
  rw [List.pairwise_map]
  refine (h.filter _).imp_of_mem fun {a b} ha hb hab => ?_
  unfold ofSide at ha hb
  rw [List.mem_filter] at ha hb
  simp only [beq_iff_eq] at ha hb
  rw [after_iff] at hab ⊢
  simp only [Chg.other]
  omega
 refine eq_of_sortedC _ _ hs1 hs2 fun x => ?_
 unfold ofSide
 simp only [List.mem_filter, List.mem_map, (swapR_perm l).mem_iff, beq_iff_eq]
 constructor
 ·
  rintro ⟨⟨a, ha, rfl⟩, hx⟩
  refine ⟨a, ⟨ha, ?_⟩, rfl⟩
  simp only [Chg.other] at hx; omega
 ·
  rintro ⟨a, ⟨ha, hx⟩, rfl⟩
  refine ⟨⟨a, ha, rfl⟩, ?_⟩
  simp only [Chg.other]; omega
theorem sideRun_other : ∀ (l : List Chg) (X : LU), sideRun X (l.map Chg.other) ↔ sideRun X l
 | [], _ => Iff.rfl
 | c :: r, X => by
  have he : endsP c.other (r.map Chg.other) = endsP c r := by cases r <;> rfl
  have hm : X.mk1 c.other = X.mk1 c := rfl
  rw [List.map_cons, sideRun, sideRun, he, hm, sideRun_other r]
  rfl
theorem news_other : ∀ (l : List Chg) (X : LU), news X (l.map Chg.other) = news X l
 | [], _ => rfl
 | c :: r, X => by
  have hm : X.mk1 c.other = X.mk1 c := rfl
  rw [List.map_cons, news, news, hm, news_other r]
  rfl
theorem swap_valid {t : Tms} {l : List Chg} (ht : t.ok) (h : checkChanges t l = 0) : checkChanges t.swap (swapR l) = 0 := by
 obtain ⟨h1, h2, h3, h4⟩ := cc_parts h
 have hs := cc_sorted h
 have hf := (Run.start ht h)
 have hg := checkTeams_zero h1
 refine cc_of ?_ ?_ ?_
 ·
  refine fine_teams ⟨⟨ht.2, ht.1⟩, ?_, ?_, ?_, ?_⟩
  ·
   exact List.perm_append_comm.nodup_iff.1 hf.nd
  ·
   intro s hm
   exact hf.nm s (List.perm_append_comm.mem_iff.1 hm)
  ·
   rintro side (rfl | rfl)
   ·
    exact hf.rg 1 (.inr rfl)
   ·
    exact hf.rg 0 (.inl rfl)
  ·
   rintro side (rfl | rfl)
   ·
    exact hg.g1.perm
   ·
    exact hg.g0.perm
 ·
  rw [(swapR_perm l).length_eq, List.length_map]; exact h2
 ·
  have hc : ∀ c ∈ swapR l, checkC c = 0 := fun c hc => by
   have := (swapR_perm l).mem_iff.1 hc
   rw [List.mem_map] at this
   obtain ⟨a, ha, rfl⟩ := this
   have hC := checkC_zero (h3 a ha)
   refine checkC_of ?_ hC.2.1 hC.2.2.1 hC.2.2.2.1 hC.2.2.2.2
   show 1 - a.side = 0 ∨ 1 - a.side = 1
   rcases hC.1 with e | e <;> omega
  rw [cc_iff (swapR l) t.swap t.swap.all none ⟨ht.2, ht.1⟩ hc (swapR_sorted hs) (fun _ h => h) (fun _ _ => rfl)]
  have h4' := (cc_iff l t t.all none ht h3 hs (fun _ h => h) (fun _ _ => rfl)).1 h4
  obtain ⟨q1, q2, q3, q4⟩ := h4'
  have s0 := side_swap hs 0
  have s1 := side_swap hs 1
  rw [show (1 : Int) - 0 = 1 from rfl] at s0
  rw [show (1 : Int) - 1 = 0 from rfl] at s1
  have f0 : t.swap.l0 = t.l1 := rfl
  have f1 : t.swap.l1 = t.l0 := rfl
  rw [s0, s1, sideRun_other, sideRun_other, news_other, news_other, f0, f1]
  refine ⟨q2, q1, List.perm_append_comm.nodup_iff.1 q3, fun s hm hm' => ?_⟩
  exact q4 s (List.perm_append_comm.mem_iff.1 hm) (List.perm_append_comm.mem_iff.1 hm')
def runSide (X : LU) (m : List Chg) : LU := m.foldl LU.mk1 X
theorem runSide_other : ∀ (m : List Chg) (X : LU), runSide X (m.map Chg.other) = runSide X m
 | [], _ => rfl
 | c :: r, X => runSide_other r (X.mk1 c)
theorem atAll_side (s : Int) (h2 : s = 0 ∨ s = 1) : ∀ (l : List Chg) (t : Tms) (n : Int), (∀ c ∈ l, c.side = 0 ∨ c.side = 1) → (atAll t l n).get s = runSide (t.get s) ((ofSide s l).filter fun c => decide (c.play ≤ n))
 | [], _, _, _ => rfl
 | c :: r, t, n, hok => by
  have hcs := hok c (by simp)
  have ih := fun t => atAll_side s h2 r t n fun d hd => hok d (List.mem_cons_of_mem _ hd)
  unfold atAll ofSide
  by_cases hs : c.side = s
  ·
   rw [List.filter_cons_of_pos (by simpa using hs)]
   by_cases hn : c.play ≤ n
   ·
    rw [if_pos hn, List.filter_cons_of_pos (by simpa using hn), ih]
    subst hs
    rw [get_made_same t c hcs]
    rfl
   ·
    rw [if_neg hn, List.filter_cons_of_neg (by simpa using hn), ih]; rfl
  ·
   rw [List.filter_cons_of_neg (by simpa using hs)]
   by_cases hn : c.play ≤ n
   ·
    rw [if_pos hn, ih, get_made_other t c hcs s h2 (fun e => hs e.symm)]; rfl
   ·
    rw [if_neg hn, ih]; rfl
theorem swap_at {t : Tms} {l : List Chg} (h : checkChanges t l = 0) (n : Int) (s : Int) (h2 : s = 0 ∨ s = 1) : (atL t.swap (swapR l) n).get s = (atL t l n).get (1 - s) := by
 have hs := cc_sorted h
 have hok : ∀ c ∈ l, c.side = 0 ∨ c.side = 1 := fun c hc => (checkC_zero ((cc_parts h).2.2.1 c hc)).1
 have hok2 : ∀ c ∈ swapR l, c.side = 0 ∨ c.side = 1 := fun c hc => by
  have := (swapR_perm l).mem_iff.1 hc
  rw [List.mem_map] at this
  obtain ⟨a, ha, rfl⟩ := this
  show 1 - a.side = 0 ∨ 1 - a.side = 1
  rcases hok a ha with e | e <;> omega
 rw [← atAll_eq _ _ _ (plays_sorted hs), ← atAll_eq _ _ _ (plays_sorted (swapR_sorted hs)), atAll_side s h2 _ _ _ hok2, atAll_side (1 - s) (by omega) _ _ _ hok, side_swap hs]
 have e1 : t.swap.get s = t.get (1 - s) := by rcases h2 with rfl | rfl <;> rfl
 have e2 : ((ofSide (1 - s) l).map Chg.other).filter (fun c => decide (c.play ≤ n)) = ((ofSide (1 - s) l).filter fun c => decide (c.play ≤ n)).map Chg.other := by
  rw [List.filter_map]; rfl
 rw [e1, e2, runSide_other]
end L
end Go.Proofs.YtmagppkclnebjaaGreatDoor

namespace Go.Proofs.YtmagppkclnebjaaGreatDoor
namespace L
open Go.Lib (decDigits parseUint10 parseMag atoiAll nDigits)

def isDig (c : UInt8) : Bool := decide (48 ≤ c.toNat ∧ c.toNat ≤ 57)
def valL (l : List UInt8) : Nat := l.foldl (fun a c => 10 * a + (c.toNat - 48)) 0
theorem valL_snoc (l : List UInt8) (c : UInt8) : valL (l ++ [c]) = 10 * valL l + (c.toNat - 48) := by simp [valL]
theorem dig_of (d : Nat) (h : d < 10) : (UInt8.ofNat (48 + d)).toNat = 48 + d := by
 rw [UInt8.toNat_ofNat']; omega
theorem dec_small {n : Nat} (h : n < 10) : decDigits n = [UInt8.ofNat (48 + n)] := Go.Lib.decDigits_one h
theorem dec_big {n : Nat} (h : ¬ n < 10) : decDigits n = decDigits (n / 10) ++ [UInt8.ofNat (48 + n % 10)] := by rw [decDigits, dif_neg h]
theorem dec_ne (n : Nat) : decDigits n ≠ [] := by
 by_cases h : n < 10
 ·
  rw [dec_small h]; simp
 ·
  rw [dec_big h]; simp
theorem dec_dig (n : Nat) : ∀ c ∈ decDigits n, isDig c = true := by
 induction n using Nat.strongRecOn with
 | _ n ih =>
  intro c hc
  by_cases h : n < 10
  ·
   rw [dec_small h] at hc
   have : c = UInt8.ofNat (48 + n) := by simpa using hc
   subst this
   unfold isDig; rw [dig_of n h]; simp; omega
  ·
   rw [dec_big h] at hc
   rcases List.mem_append.1 hc with hc | hc
   ·
    exact ih (n / 10) (by omega) c hc
   ·
    have : c = UInt8.ofNat (48 + n % 10) := by simpa using hc
    subst this
    unfold isDig; rw [dig_of (n % 10) (by omega)]; simp; omega
theorem dec_val (n : Nat) : valL (decDigits n) = n := by
 induction n using Nat.strongRecOn with
 | _ n ih =>
  by_cases h : n < 10
  ·
   rw [dec_small h]
   simp only [valL, List.foldl_cons, List.foldl_nil]
   rw [dig_of n h]; omega
  ·
   rw [dec_big h, valL_snoc, ih (n / 10) (by omega), dig_of (n % 10) (by omega)]; omega
/-- the first digit of a numeral is no zero, but for "0" -/
theorem dec_head (n : Nat) (h0 : n ≠ 0) : (decDigits n).headD 0 ≠ 48 := by
 induction n using Nat.strongRecOn with
 | _ n ih =>
  by_cases h : n < 10
  ·
   rw [dec_small h]
   simp only [List.headD_cons]
   intro e
   have := congrArg UInt8.toNat e
   rw [dig_of n h] at this
   simp at this; omega
  ·
   rw [dec_big h]
   have hne := dec_ne (n / 10)
   have := ih (n / 10) (by omega) (by omega)
   cases hd : decDigits (n / 10) with
   | nil => exact absurd hd hne
   | cons a r => rw [hd] at this; simpa using this
theorem dec_len9 {n : Nat} : (decDigits n).length ≤ 9 ↔ n < 1000000000 := by
 rw [Go.Lib.decDigits_length]
 constructor
 ·
  intro h
  have h1 := Go.Lib.lt_pow_nDigits n
  have h2 : (10 : Nat) ^ nDigits n ≤ 10 ^ 9 := Nat.pow_le_pow_right (by omega) h
  omega
 ·
  intro h
  by_cases hz : n < 10
  ·
   rw [Go.Lib.nDigits_small hz]; omega
  ·
   rcases Nat.lt_or_ge 9 (nDigits n) with h9 | h9
   ·
    exfalso
    have key : ∀ k n, k < nDigits n → 10 ^ k ≤ n ∨ k = 0 := by
     intro k
     induction k with
     | zero => intro n _; exact .inr rfl
     | succ k ih =>
      intro n hk
      by_cases hs : n < 10
      ·
       rw [Go.Lib.nDigits_small hs] at hk; omega
      ·
       rw [Go.Lib.nDigits_big hs] at hk
       rcases ih (n / 10) (by omega) with h1 | h1
       ·
        left; rw [Nat.pow_succ]; omega
       ·
        subst h1; left; omega
    rcases key 9 n h9 with h1 | h1
    ·
     omega
    ·
     omega
   ·
    exact h9
/-- a numeral of its own value: digits alone, no zero ahead -/
theorem dec_of_digits : ∀ (l : List UInt8), l ≠ [] → (∀ c ∈ l, isDig c = true) → (l.length > 1 → l.headD 0 ≠ 48) → l = decDigits (valL l) := by
 intro l
 induction h : l.length using Nat.strongRecOn generalizing l with
 | _ n ih =>
  intro hne hd hz
  obtain ⟨l', c, rfl⟩ : ∃ l' c, l = l' ++ [c] := ⟨l.dropLast, l.getLast hne, (List.dropLast_concat_getLast hne).symm⟩
  have hc := hd c (by simp)
  unfold isDig at hc
  simp only [decide_eq_true_eq] at hc
  have hcc : UInt8.ofNat (48 + (c.toNat - 48)) = c := by
   rw [show 48 + (c.toNat - 48) = c.toNat by omega]; simp
  cases hl : l' with
  | nil =>
   subst hl
   rw [valL_snoc]
   simp only [List.nil_append]
   have : 10 * valL [] + (c.toNat - 48) = c.toNat - 48 := by simp [valL]
   rw [this, dec_small (by omega), hcc]
  | cons a r =>
   rw [← hl]
   have hne' : l' ≠ [] := by rw [hl]; simp
   have hlen : (l' ++ [c]).length > 1 := by rw [hl]; simp
   have hhead : (l' ++ [c]).headD 0 = l'.headD 0 := by rw [hl]; rfl
   have h48 : l'.headD 0 ≠ 48 := by rw [← hhead]; exact hz (h ▸ hlen)
   have hi := ih l'.length (by rw [← h]; simp) l' rfl hne' (fun x hx => hd x (List.mem_append_left _ hx)) (fun _ => h48)
   have hpos : valL l' ≠ 0 := fun e => by
    rw [e] at hi
    rw [hi] at h48
    exact h48 (by rw [dec_small (by omega)]; rfl)
   rw [valL_snoc, dec_big (by omega)]
   have e1 : (10 * valL l' + (c.toNat - 48)) / 10 = valL l' := by omega
   have e2 : (10 * valL l' + (c.toNat - 48)) % 10 = c.toNat - 48 := by omega
   rw [e1, e2, hcc, ← hi]
/-- Number, as the reference reads it -/
def numR (l : List UInt8) : Int := if l = [] ∨ 9 < l.length ∨ (1 < l.length ∧ l.headD 0 = 48) then -1 else if l.all isDig then (valL l : Nat) else -1
theorem numR_dec (n : Nat) (h : n < 1000000000) : numR (decDigits n) = n := by
 have hl := dec_len9.2 h
 have hh : ¬ (decDigits n = [] ∨ 9 < (decDigits n).length ∨ (1 < (decDigits n).length ∧ (decDigits n).headD 0 = 48)) := by
  rintro (h1 | h1 | ⟨h1, h2⟩)
  ·
   exact dec_ne n h1
  ·
   omega
  ·
   by_cases hz : n = 0
   ·
    subst hz; rw [dec_small (by omega)] at h1; simp at h1
   ·
    exact dec_head n hz h2
 unfold numR
 rw [if_neg hh, if_pos (by rw [List.all_eq_true]; exact dec_dig n), dec_val]
theorem numR_ok (l : List UInt8) : 0 ≤ numR l ↔ ∃ n : Nat, n < 1000000000 ∧ l = decDigits n ∧ numR l = n := by
 constructor
 ·
  intro h
  unfold numR at h
  split at h
  ·
   omega
  ·
   rename_i h1
   split at h
   ·
    rename_i h2
    rw [List.all_eq_true] at h2
    have hne : l ≠ [] := fun e => h1 (.inl e)
    have e := dec_of_digits l hne h2 (fun hl hz => h1 (.inr (.inr ⟨hl, hz⟩)))
    have hl : (decDigits (valL l)).length ≤ 9 := by
     rw [← e]
     rcases Nat.lt_or_ge 9 l.length with h9 | h9
     ·
      exact absurd (.inr (.inl h9)) h1
     ·
      exact h9
    have hn := dec_len9.1 hl
    refine ⟨valL l, hn, e, ?_⟩
    conv => lhs; rw [e]
    exact numR_dec _ hn
   ·
    omega
 ·
  rintro ⟨n, _, _, e⟩; omega
theorem parse_snoc : ∀ (l : List UInt8) (acc : Nat) (c : UInt8), (∀ x ∈ l, isDig x = true) → isDig c = true → l.foldl (fun a c => 10 * a + (c.toNat - 48)) acc < 100000000000 → parseUint10 acc (l ++ [c]) = .ok (10 * (l.foldl (fun a c => 10 * a + (c.toNat - 48)) acc) + (c.toNat - 48))
 | [], acc, c, _, hc, hb => by
  unfold isDig at hc
  simp only [decide_eq_true_eq] at hc
  simp only [List.foldl_nil] at hb
  simp only [List.nil_append, parseUint10, List.foldl_nil]
  rw [if_pos hc, if_neg (by omega), if_neg (by omega)]
  congr 1; omega
 | a :: r, acc, c, hl, hc, hb => by
  have ha := hl a (by simp)
  unfold isDig at ha
  simp only [decide_eq_true_eq] at ha
  have hmono : ∀ (l : List UInt8) (x : Nat), x ≤ l.foldl (fun a c => 10 * a + (c.toNat - 48)) x := by
   intro l
   induction l with
   | nil => intro x; exact Nat.le_refl _
   | cons y r ih => intro x; simp only [List.foldl_cons]; exact Nat.le_trans (by omega) (ih _)
  simp only [List.foldl_cons] at hb
  have h1 := hmono r (10 * acc + (a.toNat - 48))
  simp only [List.cons_append, parseUint10, List.foldl_cons]
  rw [if_pos ha, if_neg (by omega), if_neg (by omega)]
  have e : acc * 10 + (a.toNat - 48) = 10 * acc + (a.toNat - 48) := by omega
  rw [e]
  exact parse_snoc r _ c (fun x hx => hl x (List.mem_cons_of_mem _ hx)) hc hb
theorem atoi_dec (n : Nat) (h : n < 1000000000) : atoiAll (decDigits n) = .ok n := by
 have hp : parseMag (decDigits n) = .ok n := by
  unfold parseMag
  rw [if_neg (dec_ne n)]
  by_cases hs : n < 10
  ·
   rw [dec_small hs]
   have := parse_snoc [] 0 (UInt8.ofNat (48 + n)) (by simp) (by unfold isDig; rw [dig_of n hs]; simp; omega) (by simp)
   rw [List.nil_append] at this
   rw [this, dig_of n hs]; simp
  ·
   rw [dec_big hs]
   have hv : valL (decDigits (n / 10)) = n / 10 := dec_val _
   have := parse_snoc (decDigits (n / 10)) 0 (UInt8.ofNat (48 + n % 10)) (dec_dig _) (by unfold isDig; rw [dig_of (n % 10) (by omega)]; simp; omega) (by unfold valL at hv; rw [hv]; omega)
   rw [this]
   unfold valL at hv
   rw [hv, dig_of (n % 10) (by omega)]
   congr 1; omega
 cases hd : decDigits n with
 | nil => exact absurd hd (dec_ne n)
 | cons c r =>
  have hc := dec_dig n c (by rw [hd]; simp)
  unfold isDig at hc
  simp only [decide_eq_true_eq] at hc
  rw [hd] at hp
  unfold atoiAll
  simp only []
  rw [if_neg (by omega), hp]
  simp only []
  rw [if_neg (by omega), if_neg (by omega), if_neg (by omega)]
theorem numOk_dec (n : Nat) (h : n < 1000000000) : numOk (decS n) = true ∧ atoiV (decS n) = n := by
 have e : (decS (n : Int)).data.toList = decDigits n := by simp [decS]
 have hs : (decS (n : Int)).size ≤ 9 := by rw [Go.Lib.size_eq, e]; exact dec_len9.2 h
 unfold numOk atoiV
 rw [e, atoi_dec n h]
 simp [hs]
theorem numOk_iff (s : Str) : numOk s = true ↔ ∃ n : Nat, n < 1000000000 ∧ s = decS n ∧ atoiV s = n := by
 constructor
 ·
  intro h
  unfold numOk at h
  cases ha : atoiAll s.data.toList with
  | ok v =>
   rw [ha] at h
   simp only [Bool.and_eq_true, decide_eq_true_eq] at h
   obtain ⟨⟨h1, h2⟩, h3⟩ := h
   have hv : v = (v.toNat : Int) := by omega
   rw [hv] at h3
   have e : (decS (v.toNat : Int)).data.toList = decDigits v.toNat := by unfold decS; rw [Int.toNat_natCast]
   have hn : v.toNat < 1000000000 := dec_len9.1 (by rw [← e, h3, ← Go.Lib.size_eq]; exact h2)
   exact ⟨v.toNat, hn, h3.symm, by rw [← h3]; exact (numOk_dec _ hn).2⟩
  | _ => rw [ha] at h; cases h
 ·
  rintro ⟨n, hn, rfl, _⟩
  exact (numOk_dec n hn).1
/-- both readings of a word as a number -/
theorem num_same (s : Str) : numOk s = decide (0 ≤ numR s.data.toList) ∧ (numOk s = true → atoiV s = numR s.data.toList) := by
 have key : numOk s = true ↔ 0 ≤ numR s.data.toList := by
  rw [numOk_iff, numR_ok]
  constructor
  ·
   rintro ⟨n, hn, rfl, _⟩
   have e : (decS (n : Int)).data.toList = decDigits n := by simp [decS]
   exact ⟨n, hn, e, by rw [e]; exact numR_dec n hn⟩
  ·
   rintro ⟨n, hn, e, _⟩
   have : s = decS n := by
    have h1 := mk_data s
    rw [e] at h1
    rw [← h1]; simp [decS]
   exact ⟨n, hn, this, by rw [this]; exact (numOk_dec n hn).2⟩
 refine ⟨?_, fun h => ?_⟩
 ·
  rw [Bool.eq_iff_iff, key]; simp
 ·
  obtain ⟨n, hn, rfl, h2⟩ := (numOk_iff s).1 h
  have e : (decS (n : Int)).data.toList = decDigits n := by simp [decS]
  rw [h2, e, numR_dec n hn]
end L
end Go.Proofs.YtmagppkclnebjaaGreatDoor

set_option linter.unusedSimpArgs false
namespace Go.Proofs.YtmagppkclnebjaaGreatDoor
namespace L

/-- the reference's way to who has left: all changes are gone over -/
def refGoneL : Tms → List Chg → Int → Int → List Str
 | _, [], _, _ => []
 | t, c :: r, n, side => (if c.play ≤ n ∧ c.side = side ∧ (t.get c.side).bat c.slot ≠ c.name then [(t.get c.side).bat c.slot] else []) ++ refGoneL (t.made c) r n side
theorem refGoneL_late : ∀ (l : List Chg) (t : Tms) (n side : Int), (∀ c ∈ l, n < c.play) → refGoneL t l n side = []
 | [], _, _, _, _ => rfl
 | c :: r, t, n, side, h => by
  have hc := h c (by simp)
  unfold refGoneL
  rw [if_neg (by omega), List.nil_append]
  exact refGoneL_late r _ n side fun d hd => h d (List.mem_cons_of_mem _ hd)
theorem gone_eq : ∀ (l : List Chg) (t : Tms) (n side : Int), l.Pairwise (fun a b => a.play ≤ b.play) → refGoneL t l n side = goneL t l n side
 | [], _, _, _, _ => rfl
 | c :: r, t, n, side, h => by
  rw [List.pairwise_cons] at h
  unfold refGoneL goneL
  by_cases hc : n < c.play
  ·
   rw [if_neg (by omega), if_pos hc, List.nil_append]
   exact refGoneL_late r _ n side fun d hd => by have := h.1 d hd; omega
  ·
   rw [if_neg hc, gone_eq r _ n side h.2]
   congr 1
   by_cases h1 : (t.get c.side).bat c.slot ≠ c.name ∧ c.side = side
   ·
    rw [if_pos h1, if_pos ⟨by omega, h1.2, h1.1⟩]
   ·
    rw [if_neg h1, if_neg (fun h2 => h1 ⟨h2.2.2, h2.2.1⟩)]
theorem goneL_len : ∀ (l : List Chg) (t : Tms) (n side : Int), (goneL t l n side).length ≤ l.length
 | [], _, _, _ => Nat.le_refl _
 | c :: r, t, n, side => by
  have := goneL_len r (t.made c) n side
  unfold goneL
  split
  ·
   simp
  ·
   rw [List.length_append, List.length_cons]
   split <;> simp <;> omega
/-- the reference's way to who has a position -/
def refWho (X : LU) (pos : Int) : Str := match X.p.findIdx? (fun y => decide (y = pos)) with | some i => X.b.getD i .empty | none => .empty
theorem who_eq (X : LU) (pos : Int) (h : pos ∈ X.p) : refWho X pos = holder X pos := by
 unfold refWho holder idxF
 cases hf : X.p.findIdx? (fun y => decide (y = pos)) with
 | none =>
  rw [List.findIdx?_eq_none_iff] at hf
  have := hf pos h
  simp at this
 | some i =>
  show _ = X.b.getD (max 0 (i : Int)).toNat .empty
  rw [show (max 0 (i : Int)).toNat = i by omega]
/-- nine different numbers from 1 to 9: each is there -/
theorem all_there {p : List Int} (hl : p.length = 9) (hn : p.Nodup) (hr : ∀ n ∈ p, 1 ≤ n ∧ n ≤ 9) (k : Int) (hk : 1 ≤ k ∧ k ≤ 9) : k ∈ p := by
 have key : ∀ (m : Nat) (q : List Int), q.Nodup → (∀ x ∈ q, ∃ j : Nat, j < m ∧ x = (j : Int) + 1) → q.length ≤ m := by
  intro m
  induction m with
  | zero => intro q _ h; cases q with
   | nil => simp
   | cons x r => obtain ⟨j, hj, _⟩ := h x (by simp); omega
  | succ m ih =>
   intro q hq h
   have h2 := ih (q.filter fun x => decide (x ≠ (m : Int) + 1)) (hq.filter _) (fun x hx => by
    rw [List.mem_filter] at hx
    obtain ⟨j, hj, e⟩ := h x hx.1
    have hne : x ≠ (m : Int) + 1 := by simpa using hx.2
    exact ⟨j, by omega, e⟩)
   have h3 : q.length ≤ (q.filter fun x => decide (x ≠ (m : Int) + 1)).length + 1 := by
    clear ih h h2
    induction q with
    | nil => simp
    | cons x r ihr =>
     rw [List.nodup_cons] at hq
     by_cases e : x = (m : Int) + 1
     ·
      subst e
      have : r.filter (fun x => decide (x ≠ (m : Int) + 1)) = r := by
       rw [List.filter_eq_self]
       intro y hy
       have : y ≠ (m : Int) + 1 := fun e => hq.1 (e ▸ hy)
       simpa using this
      rw [List.filter_cons_of_neg (by simp), this]; simp
     ·
      rw [List.filter_cons_of_pos (by simpa using e)]
      have := ihr hq.2
      simp only [List.length_cons]; omega
   omega
 by_cases hm : k ∈ p
 ·
  exact hm
 ·
  exfalso
  -- k is missing: the others, those above k less one, are at most eight
  have h2 := key 8 (p.map fun x => if k < x then x - 1 else x) (by
   rw [List.nodup_iff_pairwise_ne, List.pairwise_map]
   rw [List.nodup_iff_pairwise_ne] at hn
   refine List.Pairwise.imp_of_mem ?_ hn
   intro a b ha hb hab
   have hak : a ≠ k := fun e => hm (e ▸ ha)
   have hbk : b ≠ k := fun e => hm (e ▸ hb)
   split <;> split <;> omega)
   (fun x hx => by
    rw [List.mem_map] at hx
    obtain ⟨y, hy, rfl⟩ := hx
    have := hr y hy
    have hyk : y ≠ k := fun e => hm (e ▸ hy)
    refine ⟨((if k < y then y - 1 else y) - 1).toNat, ?_, ?_⟩ <;> split <;> omega)
  rw [List.length_map, hl] at h2
  omega
theorem fine_who {t : Tms} (h : t.fine) (side : Int) (hs : side = 0 ∨ side = 1) (k : Int) (hk : 1 ≤ k ∧ k ≤ 9) : refWho (t.get side) k = holder (t.get side) k :=
 who_eq _ _ (all_there (Tms.get_ok t h.ok side).2 (h.pm side hs) (h.rg side hs) k hk)
theorem addName_mem (out : List Str) (s x : Str) : x ∈ addName out s ↔ x ∈ out ∨ x = s := by
 unfold addName
 split
 ·
  rename_i h
  exact ⟨.inl, fun h' => h'.elim id fun e => e ▸ h⟩
 ·
  simp
theorem namesL_mem (t : Tms) (side : Int) (x : Str) : ∀ (l : List Chg) (out : List Str), x ∈ l.foldl (fun out c => if c.side = side then addName out c.name else out) out ↔ x ∈ out ∨ ∃ c ∈ l, c.side = side ∧ c.name = x
 | [], out => by simp
 | c :: r, out => by
  rw [List.foldl_cons, namesL_mem t side x r]
  by_cases h : c.side = side
  ·
   rw [if_pos h, addName_mem]
   constructor
   ·
    rintro ((h1 | h1) | ⟨d, hd, h1⟩)
    ·
     exact .inl h1
    ·
     exact .inr ⟨c, by simp, h, h1.symm⟩
    ·
     exact .inr ⟨d, List.mem_cons_of_mem _ hd, h1⟩
   ·
    rintro (h1 | ⟨d, hd, h1, h2⟩)
    ·
     exact .inl (.inl h1)
    ·
     rcases List.mem_cons.1 hd with rfl | hd
     ·
      exact .inl (.inr h2.symm)
     ·
      exact .inr ⟨d, hd, h1, h2⟩
  ·
   rw [if_neg h]
   constructor
   ·
    rintro (h1 | ⟨d, hd, h1⟩)
    ·
     exact .inl h1
    ·
     exact .inr ⟨d, List.mem_cons_of_mem _ hd, h1⟩
   ·
    rintro (h1 | ⟨d, hd, h1, h2⟩)
    ·
     exact .inl h1
    ·
     rcases List.mem_cons.1 hd with rfl | hd
     ·
      exact absurd h1 h
     ·
      exact .inr ⟨d, hd, h1, h2⟩
theorem known_eq (t : Tms) (l : List Chg) (x : Str) (hs : ∀ c ∈ l, c.side = 0 ∨ c.side = 1) : knownIn t l x = (decide (x ∈ namesL t l 0) || decide (x ∈ namesL t l 1)) := by
 unfold knownIn namesL
 rw [Bool.eq_iff_iff]
 simp only [Bool.or_eq_true, decide_eq_true_eq, List.any_eq_true]
 rw [namesL_mem t 0 x, namesL_mem t 1 x]
 have e0 : t.get 0 = t.l0 := rfl
 have e1 : t.get 1 = t.l1 := rfl
 rw [e0, e1]
 constructor
 ·
  rintro ((⟨c, hc, h⟩ | h) | h)
  ·
   rcases hs c hc with h0 | h0
   ·
    exact .inl (.inr ⟨c, hc, h0, h⟩)
   ·
    exact .inr (.inr ⟨c, hc, h0, h⟩)
  ·
   exact .inl (.inl h)
  ·
   exact .inr (.inl h)
 ·
  rintro ((h | ⟨c, hc, _, h⟩) | (h | ⟨c, hc, _, h⟩))
  ·
   exact .inl (.inr h)
  ·
   exact .inl (.inl ⟨c, hc, h⟩)
  ·
   exact .inr h
  ·
   exact .inl (.inl ⟨c, hc, h⟩)
theorem namesL_len (t : Tms) (side : Int) : ∀ (l : List Chg) (out : List Str), (l.foldl (fun out c => if c.side = side then addName out c.name else out) out).length ≤ out.length + l.length
 | [], out => by simp
 | c :: r, out => by
  rw [List.foldl_cons]
  have := namesL_len t side r (if c.side = side then addName out c.name else out)
  have h2 : (if c.side = side then addName out c.name else out).length ≤ out.length + 1 := by
   split
   ·
    unfold addName; split <;> simp
   ·
    omega
  rw [List.length_cons]; omega
end L
end Go.Proofs.YtmagppkclnebjaaGreatDoor
