/- Texts of this seat, joined: What the functions of chapter 3 compute, as plain Lean functions on lists: no program stands here · Plain facts on lineups and teams that have no error · What the other functions of chapter 3 compute, as plain Lean functions on lists: no program stands here · Plain facts on teams and changes that have no error · What Parse computes, as plain Lean functions: no program stands here. -/
import Derived.Lib.Strings
import Derived.Lib.SplitLaws
import Derived.Lib.AtoiAll
import Derived.Lib.ItoaNum
set_option linter.unusedVariables false
set_option linter.unusedSimpArgs false
namespace Go.Proofs.YtmagppkclnebjaaGreatDoor
namespace L

theorem beq_data (a b : ByteArray) : (a == b) = (a.data == b.data) := rfl
instance : LawfulBEq ByteArray where
 eq_of_beq {a b} h := by
  rw [beq_data] at h
  cases a; cases b
  simpa using h
 rfl {a} := by rw [beq_data]; simp

abbrev Str := ByteArray
/-- a lineup: the players and the positions of its nine slots -/
structure LU where
 b : List Str
 p : List Int
 deriving DecidableEq
/-- a change -/
structure Chg where
 side : Int
 play : Int
 slot : Int
 name : Str
 pos : Int
 deriving DecidableEq
/-- a stint -/
structure Sti where
 side : Int
 slot : Int
 pos : Int
 name : Str
 fr : Int
 to : Int
 deriving DecidableEq
/-- teams -/
structure Tms where
 l0 : LU
 l1 : LU
 deriving DecidableEq

def whenE (b : Bool) (e : Int) : Int := if b then e else 0
def withinE (n lo hi : Int) : Int := whenE (decide (n < lo) || decide (n > hi)) 3
def firstE : List Int → Int
 | [] => 0
 | e :: l => if e = 0 then firstE l else e
def sidedE (n : Int) : Int := whenE (n != 0 && n != 1) 17

def letter (c : UInt8) : Bool := (decide (65 ≤ c) && decide (c ≤ 90)) || (decide (97 ≤ c) && decide (c ≤ 122))
def nameChar (c : UInt8) : Bool := letter c || (decide (48 ≤ c) && decide (c ≤ 57)) || decide (c = 95)
def isNameL (l : List UInt8) : Bool := decide (0 < l.length) && decide (l.length ≤ 24) && letter (l.headD 0) && l.all nameChar
def isName (s : Str) : Bool := isNameL s.data.toList
def namedE (s : Str) : Int := whenE (!isName s) 8

def LU.ok (l : LU) : Prop := l.b.length = 9 ∧ l.p.length = 9
def Tms.ok (t : Tms) : Prop := t.l0.ok ∧ t.l1.ok

/-- the first index of s in l, or -1 -/
def idxS (l : List Str) (s : Str) : Int := match l.findIdx? (fun x => decide (x = s)) with | some i => (i : Int) | none => -1
def idxI (l : List Int) (s : Int) : Int := match l.findIdx? (fun x => decide (x = s)) with | some i => (i : Int) | none => -1
/-- the first index at which p holds, or -1 -/
def idxF {α : Type} (p : α → Bool) (l : List α) : Int := match l.findIdx? p with | some i => (i : Int) | none => -1

def clB : List Str → List Str → Int
 | _, [] => 0
 | seen, s :: r => if !isName s then 8 else if s ∈ seen then 9 else clB (seen ++ [s]) r
def clP : List Int → List Int → Int
 | _, [] => 0
 | seen, n :: r => if n < 1 ∨ n > 9 then 3 else if n ∈ seen then 29 else clP (seen ++ [n]) r
def checkLineup (l : LU) : Int := if clB [] l.b ≠ 0 then clB [] l.b else clP [] l.p
def both (t : Tms) : Bool := t.l0.b.any fun s => decide (s ∈ t.l1.b)
def checkTeams (t : Tms) : Int := if firstE [checkLineup t.l0, checkLineup t.l1] ≠ 0 then firstE [checkLineup t.l0, checkLineup t.l1] else whenE (both t) 9

def Tms.get (t : Tms) (side : Int) : LU := if side = 0 then t.l0 else t.l1
def LU.bat (l : LU) (slot : Int) : Str := l.b.getD (slot - 1).toNat .empty
def LU.at_ (l : LU) (slot : Int) : Int := l.p.getD (slot - 1).toNat 0
def LU.made (l : LU) (slot : Int) (name : Str) (pos : Int) : LU := ⟨l.b.set (slot - 1).toNat name, l.p.set (slot - 1).toNat pos⟩
def Tms.made (t : Tms) (c : Chg) : Tms := if c.side = 0 then ⟨t.l0.made c.slot c.name c.pos, t.l1⟩ else ⟨t.l0, t.l1.made c.slot c.name c.pos⟩

/-- a comes behind b in the order of changes -/
def after (a b : Chg) : Bool := if a.play ≠ b.play then decide (a.play > b.play) else if a.side ≠ b.side then decide (a.side > b.side) else decide (a.slot > b.slot)
def checkC (c : Chg) : Int := firstE [sidedE c.side, withinE c.play 0 256, withinE c.slot 1 9, withinE c.pos 1 9, namedE c.name]
def ends (c : Chg) : List Chg → Bool
 | [] => true
 | n :: _ => n.play != c.play || n.side != c.side
def late (c : Chg) : Option Chg → Bool
 | none => false
 | some b => !after c b
def sortI (p : List Int) : List Int := p.mergeSort fun x y => decide (x ≤ y)
/-- are the positions those from 1 to 9, each once, as the program asks it -/
def complete (p : List Int) : Bool := decide (sortI p = [1, 2, 3, 4, 5, 6, 7, 8, 9])
/-- the error of the changes from here on: the teams as they are, the names that were there, the change before -/
def ccLoop : Tms → List Str → Option Chg → List Chg → Int
 | _, _, _, [] => 0
 | t, known, prev, c :: r =>
  if checkC c ≠ 0 then checkC c
  else if late c prev then 11
  else if (t.get c.side).bat c.slot = c.name ∧ (t.get c.side).at_ c.slot = c.pos then 9
  else if (t.get c.side).bat c.slot ≠ c.name ∧ c.name ∈ known then 24
  else if ends c r ∧ ¬ ((t.made c).get c.side).p.Nodup then 29
  else ccLoop (t.made c) (known ++ [c.name]) (some c) r
def checkChanges (t : Tms) (l : List Chg) : Int :=
 if firstE [checkTeams t, whenE (decide (l.length > 64)) 5] ≠ 0 then firstE [checkTeams t, whenE (decide (l.length > 64)) 5]
 else ccLoop t (t.l0.b ++ t.l1.b) none l
end L
end Go.Proofs.YtmagppkclnebjaaGreatDoor

namespace Go.Proofs.YtmagppkclnebjaaGreatDoor
namespace L

theorem clB_zero : ∀ (l seen : List Str), clB seen l = 0 → seen.Nodup → (∀ s ∈ l, isName s = true) ∧ (seen ++ l).Nodup
 | [], seen, _, hn => ⟨by simp, by simpa using hn⟩
 | s :: r, seen, h, hn => by
  unfold clB at h
  split at h
  ·
   cases h
  ·
   rename_i h1
   split at h
   ·
    cases h
   ·
    rename_i h2
    have hn' : (seen ++ [s]).Nodup := by
     rw [List.nodup_append]
     exact ⟨hn, by simp, fun a ha b hb => by simp at hb; subst hb; intro e; subst e; exact h2 ha⟩
    obtain ⟨i1, i2⟩ := clB_zero r (seen ++ [s]) h hn'
    refine ⟨fun x hx => ?_, by simpa [List.append_assoc] using i2⟩
    rcases List.mem_cons.1 hx with rfl | hx
    ·
     simpa using h1
    ·
     exact i1 x hx
theorem clP_zero : ∀ (l seen : List Int), clP seen l = 0 → seen.Nodup → (∀ s ∈ l, 1 ≤ s ∧ s ≤ 9) ∧ (seen ++ l).Nodup
 | [], seen, _, hn => ⟨by simp, by simpa using hn⟩
 | s :: r, seen, h, hn => by
  unfold clP at h
  split at h
  ·
   cases h
  ·
   rename_i h1
   split at h
   ·
    cases h
   ·
    rename_i h2
    have hn' : (seen ++ [s]).Nodup := by
     rw [List.nodup_append]
     exact ⟨hn, by simp, fun a ha b hb => by simp at hb; subst hb; intro e; subst e; exact h2 ha⟩
    obtain ⟨i1, i2⟩ := clP_zero r (seen ++ [s]) h hn'
    refine ⟨fun x hx => ?_, by simpa [List.append_assoc] using i2⟩
    rcases List.mem_cons.1 hx with rfl | hx
    ·
     omega
    ·
     exact i1 x hx
structure LU.good (l : LU) : Prop where
 names : ∀ s ∈ l.b, isName s = true
 once : l.b.Nodup
 range : ∀ n ∈ l.p, 1 ≤ n ∧ n ≤ 9
 perm : l.p.Nodup
theorem checkLineup_zero {l : LU} (h : checkLineup l = 0) : l.good := by
 unfold checkLineup at h
 split at h
 ·
  contradiction
 ·
  rename_i h0
  obtain ⟨a, b⟩ := clB_zero l.b [] (by simpa using h0) (by simp)
  obtain ⟨c, d⟩ := clP_zero l.p [] h (by simp)
  exact ⟨a, by simpa using b, c, by simpa using d⟩
theorem firstE2 {a b : Int} (h : firstE [a, b] = 0) : a = 0 ∧ b = 0 := by
 simp only [firstE] at h
 split at h
 ·
  rename_i h1
  split at h
  ·
   rename_i h2; exact ⟨h1, h2⟩
  ·
   rename_i h2; exact absurd h h2
 ·
  rename_i h1; exact absurd h h1
structure Tms.good (t : Tms) : Prop where
 g0 : t.l0.good
 g1 : t.l1.good
 apart : ∀ s ∈ t.l0.b, s ∉ t.l1.b
theorem checkTeams_zero {t : Tms} (h : checkTeams t = 0) : t.good := by
 unfold checkTeams at h
 split at h
 ·
  contradiction
 ·
  rename_i h0
  obtain ⟨a, b⟩ := firstE2 (by simpa using h0)
  refine ⟨checkLineup_zero a, checkLineup_zero b, fun s hs hs' => ?_⟩
  have : both t = true := by
   unfold both
   rw [List.any_eq_true]
   exact ⟨s, hs, by simpa using hs'⟩
  rw [this] at h
  simp [whenE] at h
theorem isName_size {s : Str} (h : isName s = true) : s.size ≤ 24 := by
 unfold isName isNameL at h
 simp only [Bool.and_eq_true, decide_eq_true_eq] at h
 rw [Lib.size_eq]
 exact h.1.1.2
theorem checkC_zero {c : Chg} (h : checkC c = 0) : (c.side = 0 ∨ c.side = 1) ∧ (0 ≤ c.play ∧ c.play ≤ 256) ∧ (1 ≤ c.slot ∧ c.slot ≤ 9) ∧ (1 ≤ c.pos ∧ c.pos ≤ 9) ∧ isName c.name = true := by
 unfold checkC at h
 simp only [firstE] at h
 have h1 : sidedE c.side = 0 := by
  by_cases e : sidedE c.side = 0
  ·
   exact e
  ·
   rw [if_neg e] at h; exact h
 rw [if_pos h1] at h
 have h2 : withinE c.play 0 256 = 0 := by
  by_cases e : withinE c.play 0 256 = 0
  ·
   exact e
  ·
   rw [if_neg e] at h; exact h
 rw [if_pos h2] at h
 have h3 : withinE c.slot 1 9 = 0 := by
  by_cases e : withinE c.slot 1 9 = 0
  ·
   exact e
  ·
   rw [if_neg e] at h; exact h
 rw [if_pos h3] at h
 have h4 : withinE c.pos 1 9 = 0 := by
  by_cases e : withinE c.pos 1 9 = 0
  ·
   exact e
  ·
   rw [if_neg e] at h; exact h
 rw [if_pos h4] at h
 have h5 : namedE c.name = 0 := by
  by_cases e : namedE c.name = 0
  ·
   exact e
  ·
   rw [if_neg e] at h; exact h
 rw [if_pos h5] at h
 simp only [sidedE, withinE, namedE, whenE] at h1 h2 h3 h4 h5
 refine ⟨?_, ?_, ?_, ?_, ?_⟩
 ·
  by_cases a : c.side = 0
  ·
   exact .inl a
  ·
   by_cases b : c.side = 1
   ·
    exact .inr b
   ·
    simp [a, b] at h1
 ·
  by_cases a : c.play < 0 ∨ c.play > 256
  ·
   rw [if_pos (by simpa using a)] at h2; cases h2
  ·
   omega
 ·
  by_cases a : c.slot < 1 ∨ c.slot > 9
  ·
   rw [if_pos (by simpa using a)] at h3; cases h3
  ·
   omega
 ·
  by_cases a : c.pos < 1 ∨ c.pos > 9
  ·
   rw [if_pos (by simpa using a)] at h4; cases h4
  ·
   omega
 ·
  cases hh : isName c.name
  ·
   rw [hh] at h5; simp at h5
  ·
   rfl
/-- of nine numbers from 1 to 9 the program's test and the reference's are one -/
theorem complete_nodup (p : List Int) (h9 : p.length = 9) (hr : ∀ n ∈ p, 1 ≤ n ∧ n ≤ 9) : complete p = true ↔ p.Nodup := by
 unfold complete sortI
 rw [decide_eq_true_eq]
 have hp := List.mergeSort_perm p (fun x y => decide (x ≤ y))
 constructor
 ·
  intro h
  rw [← hp.nodup_iff, h]
  decide
 ·
  intro h
  have hs := List.pairwise_mergeSort (le := fun (x y : Int) => decide (x ≤ y)) (by intro a b c; simp; omega) (by intro a b; simp; omega) p
  have hn : (p.mergeSort fun x y => decide (x ≤ y)).Nodup := hp.nodup_iff.2 h
  have hl : (p.mergeSort fun x y => decide (x ≤ y)).length = 9 := by rw [hp.length_eq, h9]
  have hm : ∀ n ∈ (p.mergeSort fun x y => decide (x ≤ y)), 1 ≤ n ∧ n ≤ 9 := fun n hn => hr n (hp.mem_iff.1 hn)
  generalize p.mergeSort (fun x y => decide (x ≤ y)) = q at hs hn hl hm
  match q, hl with
  | [a0, a1, a2, a3, a4, a5, a6, a7, a8], _ =>
   simp only [List.pairwise_cons, List.mem_cons, List.not_mem_nil, or_false, decide_eq_true_eq, forall_eq_or_imp, forall_eq, List.nodup_cons, not_or] at hs hn hm
   obtain ⟨⟨s1, s2, s3, s4, s5, s6, s7, s8⟩, ⟨t2, _⟩, ⟨t3, _⟩, ⟨t4, _⟩, ⟨t5, _⟩, ⟨t6, _⟩, ⟨t7, _⟩, t8, _⟩ := hs
   obtain ⟨⟨n1, _⟩, ⟨n2, _⟩, ⟨n3, _⟩, ⟨n4, _⟩, ⟨n5, _⟩, ⟨n6, _⟩, ⟨n7, _⟩, n8, _⟩ := hn
   have m0 := hm.1
   have m8 := hm.2.2.2.2.2.2.2.2
   have x0 : a0 < a1 := by omega
   have x1 : a1 < a2 := by omega
   have x2 : a2 < a3 := by omega
   have x3 : a3 < a4 := by omega
   have x4 : a4 < a5 := by omega
   have x5 : a5 < a6 := by omega
   have x6 : a6 < a7 := by omega
   have x7 : a7 < a8 := by omega
   clear s1 s2 s3 s4 s5 s6 s7 s8 t2 t3 t4 t5 t6 t7 t8 n1 n2 n3 n4 n5 n6 n7 n8 hm
   simp only [List.cons.injEq, and_true]
   refine ⟨?_, ?_, ?_, ?_, ?_, ?_, ?_, ?_, ?_⟩ <;> omega
end L
end Go.Proofs.YtmagppkclnebjaaGreatDoor

namespace Go.Proofs.YtmagppkclnebjaaGreatDoor
namespace L

def LU.zero : LU := ⟨List.replicate 9 .empty, List.replicate 9 0⟩
def Tms.zero : Tms := ⟨LU.zero, LU.zero⟩
theorem LU.zero_ok : LU.zero.ok := ⟨rfl, rfl⟩
theorem Tms.zero_ok : Tms.zero.ok := ⟨LU.zero_ok, LU.zero_ok⟩

/-- the teams at a play: the changes up to it are made -/
def atL : Tms → List Chg → Int → Tms
 | t, [], _ => t
 | t, c :: r, n => if n < c.play then t else atL (t.made c) r n
/-- the teams behind all changes -/
def allMade : Tms → List Chg → Tms
 | t, [] => t
 | t, c :: r => allMade (t.made c) r
def holder (X : LU) (pos : Int) : Str := X.b.getD (max 0 (idxF (fun y => decide (y = pos)) X.p)).toNat .empty
def ccIdx (t : Tms) (l : List Chg) (n : Int) : Int := firstE [checkChanges t l, withinE n 0 256]
def ccIdxSide (t : Tms) (l : List Chg) (n side : Int) : Int := firstE [checkChanges t l, withinE n 0 256, sidedE side]
/-- one name more, if it is not there -/
def addName (out : List Str) (s : Str) : List Str := if s ∈ out then out else out ++ [s]
def namesL : Tms → List Chg → Int → List Str := fun t l side => l.foldl (fun out c => if c.side = side then addName out c.name else out) (t.get side).b
/-- who has left at a play -/
def goneL : Tms → List Chg → Int → Int → List Str
 | _, [], _, _ => []
 | t, c :: r, n, side => if n < c.play then [] else
  (if (t.get c.side).bat c.slot ≠ c.name ∧ c.side = side then [(t.get c.side).bat c.slot] else []) ++ goneL (t.made c) r n side
/-- the stints of a slot, from the one that goes on -/
def stLoop (n side slot : Int) : Sti → List Chg → List Sti
 | now, [] => if now.fr < n then [{ now with to := n }] else []
 | now, c :: r =>
  if c.side ≠ side ∨ c.slot ≠ slot ∨ n ≤ c.play then stLoop n side slot now r
  else (if now.fr < c.play then [{ now with to := c.play }] else []) ++ stLoop n side slot ⟨side, slot, c.pos, c.name, c.play, 0⟩ r
def stintsL (t : Tms) (l : List Chg) (n side slot : Int) : List Sti := stLoop n side slot ⟨side, slot, (t.get side).at_ slot, (t.get side).bat slot, 0, 0⟩ l
/-- the stints of the first k slots of a side -/
def sideL (t : Tms) (l : List Chg) (n side : Int) (k : Nat) : List Sti := (List.range k).flatMap fun (j : Nat) => stintsL t l n side ((j : Int) + 1)
def allL (t : Tms) (l : List Chg) (n : Int) : List Sti := sideL t l n 0 9 ++ sideL t l n 1 9
/-- one element more, put into a list that is sorted by From -/
def insSti (x : Sti) : List Sti → List Sti
 | [] => [x]
 | y :: r => if x.fr < y.fr then x :: y :: r else y :: insSti x r
def sortSti (l : List Sti) : List Sti := l.foldl (fun out x => insSti x out) []
def pitchersOf (l : List Sti) (side : Int) : List Sti := l.filter fun s => !(s.side != side || s.pos != 1)
def sumOf (l : List Sti) (name : Str) : Int := (l.map fun s => if s.name = name then s.to - s.fr else 0).sum
def knownIn (t : Tms) (l : List Chg) (name : Str) : Bool := l.any (fun c => decide (c.name = name)) || decide (name ∈ t.l0.b) || decide (name ∈ t.l1.b)

/-- the error of a lineup, a first slot, and names that came up -/
def checkCameE (X : LU) (slot : Int) (n : Nat) : Int := firstE [checkLineup X, withinE slot 1 9, whenE (decide (256 < (n : Int))) 5]
def checkCame (X : LU) (slot : Int) (came : List Str) : Int :=
 if checkCameE X slot came.length ≠ 0 then checkCameE X slot came.length else whenE (came.any fun s => !decide (s ∈ X.b)) 10
structure Dev where
 idx : Int
 proper : Str
 came : Str
 next : Str
 deriving DecidableEq
def Dev.zero : Dev := ⟨0, .empty, .empty, .empty⟩
/-- the first deviation, from index i of the slots on, at index k of the names -/
def devL (X : LU) : Nat → Nat → List Str → Option Dev
 | _, _, [] => none
 | k, i, s :: r => if s ≠ X.b.getD i .empty then some ⟨k, X.b.getD i .empty, s, X.b.getD ((i + 1) % 9) .empty⟩ else devL X (k + 1) ((i + 1) % 9) r
/-- the slot index behind that of a name -/
def behindOf (X : LU) (s : Str) : Nat := (idxF (fun y => decide (y = s)) X.b + 1).toNat % 9
/-- the indices of the improper names, from the proper one on, at index k of the names -/
def impL (X : LU) : Nat → Str → List Str → List Int
 | _, _, [] => []
 | k, p, s :: r => (if s ≠ p then [(k : Int)] else []) ++ impL X (k + 1) (X.b.getD (behindOf X s) .empty) r
end L
end Go.Proofs.YtmagppkclnebjaaGreatDoor

namespace Go.Proofs.YtmagppkclnebjaaGreatDoor
namespace L

theorem ccLoop_zero : ∀ (l : List Chg) (t : Tms) (known : List Str) (prev : Option Chg), ccLoop t known prev l = 0 → ∀ c ∈ l, checkC c = 0
 | [], _, _, _, _ => by simp
 | d :: r, t, known, prev, h => by
  unfold ccLoop at h
  split at h
  ·
   contradiction
  ·
   rename_i h0
   split at h
   ·
    cases h
   ·
    split at h
    ·
     cases h
    ·
     split at h
     ·
      cases h
     ·
      split at h
      ·
       cases h
      ·
       intro c hc
       rcases List.mem_cons.1 hc with rfl | hc
       ·
        simpa using h0
       ·
        exact ccLoop_zero r _ _ _ h c hc
theorem cc_parts {t : Tms} {l : List Chg} (h : checkChanges t l = 0) : checkTeams t = 0 ∧ l.length ≤ 64 ∧ (∀ c ∈ l, checkC c = 0) ∧ ccLoop t (t.l0.b ++ t.l1.b) none l = 0 := by
 unfold checkChanges at h
 split at h
 ·
  contradiction
 ·
  rename_i h0
  obtain ⟨a, b⟩ := firstE2 (by simpa using h0)
  refine ⟨a, ?_, ccLoop_zero l _ _ _ h, h⟩
  by_cases hl : l.length > 64
  ·
   simp [whenE, hl] at b
  ·
   omega
def Chg.okS (c : Chg) : Prop := (c.side = 0 ∨ c.side = 1) ∧ 1 ≤ c.slot ∧ c.slot ≤ 9
theorem okS_of {c : Chg} (h : checkC c = 0) : c.okS := ⟨(checkC_zero h).1, (checkC_zero h).2.2.1⟩
theorem LU.made_ok' (l : LU) (h : l.ok) (slot : Int) (n : Str) (p : Int) : (l.made slot n p).ok := ⟨by simp [LU.made, h.1], by simp [LU.made, h.2]⟩
theorem Tms.made_ok' (t : Tms) (h : t.ok) (c : Chg) : (t.made c).ok := by
 unfold Tms.made
 split
 ·
  exact ⟨LU.made_ok' _ h.1 _ _ _, h.2⟩
 ·
  exact ⟨h.1, LU.made_ok' _ h.2 _ _ _⟩
theorem atL_ok : ∀ (l : List Chg) (t : Tms) (n : Int), t.ok → (atL t l n).ok
 | [], _, _, h => h
 | c :: r, t, n, h => by
  unfold atL
  split
  ·
   exact h
  ·
   exact atL_ok r _ n (Tms.made_ok' t h c)
theorem firstE3 {a b c : Int} (h : firstE [a, b, c] = 0) : a = 0 ∧ b = 0 ∧ c = 0 := by
 simp only [firstE] at h
 split at h
 ·
  rename_i h1
  exact ⟨h1, firstE2 (by simpa [firstE] using h)⟩
 ·
  rename_i h1; exact absurd h h1
theorem firstE4 {a b c d : Int} (h : firstE [a, b, c, d] = 0) : a = 0 ∧ b = 0 ∧ c = 0 ∧ d = 0 := by
 simp only [firstE] at h
 split at h
 ·
  rename_i h1
  exact ⟨h1, firstE3 (by simpa [firstE] using h)⟩
 ·
  rename_i h1; exact absurd h h1
theorem sidedE_zero {n : Int} (h : sidedE n = 0) : n = 0 ∨ n = 1 := by
 unfold sidedE whenE at h
 by_cases a : n = 0
 ·
  exact .inl a
 ·
  by_cases b : n = 1
  ·
   exact .inr b
  ·
   simp [a, b] at h
theorem withinE_zero {n lo hi : Int} (h : withinE n lo hi = 0) : lo ≤ n ∧ n ≤ hi := by
 unfold withinE whenE at h
 by_cases a : n < lo ∨ n > hi
 ·
  rw [if_pos (by simpa using a)] at h; cases h
 ·
  omega
theorem namedE_zero {s : Str} (h : namedE s = 0) : isName s = true := by
 unfold namedE whenE at h
 cases hh : isName s
 ·
  rw [hh] at h; simp at h
 ·
  rfl
theorem Tms.get_ok (t : Tms) (h : t.ok) (side : Int) : (t.get side).ok := by
 unfold Tms.get
 split
 ·
  exact h.1
 ·
  exact h.2
/-- the insertion of one element is the sort's step -/
theorem sideL_succ (t : Tms) (l : List Chg) (n side : Int) (k : Nat) : sideL t l n side (k + 1) = sideL t l n side k ++ stintsL t l n side ((k : Int) + 1) := by
 simp [sideL, List.range_succ]
theorem devL_len (X : LU) : ∀ (r : List Str) (k i : Nat) (d : Dev), devL X k i r = some d → (k : Int) ≤ d.idx ∧ d.idx < k + r.length
 | [], _, _, _, h => by cases h
 | s :: r, k, i, d, h => by
  unfold devL at h
  split at h
  ·
   cases h; simp; omega
  ·
   have := devL_len X r (k + 1) _ d h
   simp at this ⊢; omega
end L
end Go.Proofs.YtmagppkclnebjaaGreatDoor

namespace Go.Proofs.YtmagppkclnebjaaGreatDoor
namespace L
open Go.Lib (splitK splitB countB index count)

/-- a text cut at each byte c; the byte stays at the end of its piece, or goes -/
def cutC (c : UInt8) (keep : Bool) : List UInt8 → List (List UInt8)
 | [] => [[]]
 | b :: l => if b = c then (if keep then [c] else []) :: cutC c keep l else match cutC c keep l with
  | [] => [[b]]
  | h :: t => (b :: h) :: t
theorem cutC_ne (c : UInt8) (keep : Bool) (l : List UInt8) : ∃ h t, cutC c keep l = h :: t := by
 cases l with
 | nil => exact ⟨_, _, rfl⟩
 | cons b l =>
  unfold cutC
  split
  ·
   exact ⟨_, _, rfl⟩
  ·
   split <;> exact ⟨_, _, rfl⟩
def saved (keep : Bool) : Nat := if keep then 1 else 0
theorem splitK_cutC (c : UInt8) (keep : Bool) : ∀ l : List UInt8, splitK [c] (saved keep) (count l [c]) l = cutC c keep l
 | [] => by rw [Go.Lib.count_miss (by simp [index])]; rfl
 | b :: l => by
  have ih := splitK_cutC c keep l
  by_cases h : b = c
  ·
   subst h
   have hix : index (b :: l) [b] = 0 := by rw [index]; simp [List.isPrefixOf]
   rw [Go.Lib.count_cons_eq, Nat.add_comm 1, splitK, hix]
   simp only [cutC, if_true]
   rw [← ih]
   cases keep <;> simp [saved]
  ·
   have hp : ([c] : List UInt8).isPrefixOf (b :: l) = false := by simp [List.isPrefixOf, Ne.symm h]
   have hix : index (b :: l) [c] = if index l [c] == -1 then -1 else index l [c] + 1 := by rw [index, hp]; simp
   rw [Go.Lib.count_cons_ne b c l h]
   unfold cutC
   rw [if_neg h, ← ih]
   cases hk : count l [c] with
   | zero => rfl
   | succ k =>
    by_cases hm : index l [c] = -1
    ·
     rw [Go.Lib.count_miss hm] at hk; cases hk
    ·
     have hge := Go.Lib.index_ge l [c]
     have hm' : (index l [c] == -1) = false := by simpa using hm
     obtain ⟨j, hj⟩ : ∃ j : Nat, index l [c] = j := ⟨(index l [c]).toNat, by omega⟩
     have hm2 : ((index l [c] + 1) == -1) = false := by simp; omega
     rw [splitK, splitK, hix]
     simp only [hm', Bool.false_eq_true, if_false, hm2, List.length_cons, List.length_nil]
     rw [hj]
     have e1 : ((j : Int) + 1).toNat = j + 1 := by omega
     rw [e1]
     simp only [Int.toNat_natCast]
     rw [show j + 1 + saved keep = (j + saved keep) + 1 by omega, List.take_succ_cons, show j + 1 + (0 + 1) = (j + (0 + 1)) + 1 by omega, List.drop_succ_cons]
theorem mk_data (s : Str) : (⟨s.data.toList.toArray⟩ : Str) = s := by cases s; simp
theorem splitB_cutC (c : UInt8) (keep : Bool) (s : Str) : splitB ⟨#[c]⟩ (saved keep) (countB s ⟨#[c]⟩) s = (cutC c keep s.data.toList).map fun l => (⟨l.toArray⟩ : Str) := by
 have h := Go.Lib.splitB_data ⟨#[c]⟩ (saved keep) (countB s ⟨#[c]⟩) s
 have e : countB s ⟨#[c]⟩ = count s.data.toList [c] := rfl
 rw [e] at h ⊢
 have h2 := splitK_cutC c keep s.data.toList
 have h3 : (splitB ⟨#[c]⟩ (saved keep) (count s.data.toList [c]) s).map (fun x => (⟨x.data.toList.toArray⟩ : Str)) = (cutC c keep s.data.toList).map fun l => (⟨l.toArray⟩ : Str) := by
  have h4 : (splitB ⟨#[c]⟩ (saved keep) (count s.data.toList [c]) s).map (fun x => (⟨x.data.toList.toArray⟩ : Str)) = ((splitB ⟨#[c]⟩ (saved keep) (count s.data.toList [c]) s).map fun x => x.data.toList).map fun l => (⟨l.toArray⟩ : Str) := by rw [List.map_map]; rfl
  rw [h4, h, ← h2]
 rw [← h3]
 conv => lhs; rw [← List.map_id (splitB ⟨#[c]⟩ (saved keep) (count s.data.toList [c]) s)]
 apply List.map_congr_left
 intro a _
 exact (mk_data a).symm
theorem cutC_count (c : UInt8) (keep : Bool) (s : Str) : (cutC c keep s.data.toList).length = countB s ⟨#[c]⟩ + 1 := by
 have := Go.Lib.splitB_all ⟨#[c]⟩ (Nat.le_refl 1) (saved keep) _ s rfl
 rw [splitB_cutC] at this
 simpa using this

def decS (n : Int) : Str := ⟨(Go.Lib.decDigits n.toNat).toArray⟩
def atoiV (s : Str) : Int := match Go.Lib.atoiAll s.data.toList with
 | .ok v => v
 | .range => Go.Lib.atoiSat s.data.toList
 | _ => 0
def numOk (s : Str) : Bool := match Go.Lib.atoiAll s.data.toList with
 | .ok v => decide (0 ≤ v) && decide (s.size ≤ 9) && decide (decS v = s)
 | _ => false

/-- the words of a line that are not read yet, and whether one was wrong -/
structure Rdr where
 ws : List Str
 bad : Bool
def Rdr.word (r : Rdr) : Str × Rdr := match r.ws with
 | [] => (.empty, ⟨[], true⟩)
 | w :: q => if w = .empty then (.empty, ⟨w :: q, true⟩) else (w, ⟨q, r.bad⟩)
def Rdr.int (r : Rdr) : Int × Rdr := (atoiV r.word.1, ⟨r.word.2.ws, r.word.2.bad || !numOk r.word.1⟩)
def atW : Str := ⟨#[97, 116]⟩
def Rdr.at_ (r : Rdr) : Rdr := ⟨r.word.2.ws, !decide (r.word.1 = atW) || r.word.2.bad⟩
/-- a line: its change, and what is left of its reader; the first 18 lines have no play -/
def lineC (i : Nat) (r : Rdr) : Chg × Rdr :=
 let p := if 18 ≤ i then r.at_.int else (0, r)
 let a := p.2.int
 let b := a.2.int
 let n := b.2.word
 let q := n.2.int
 (⟨a.1, p.1, b.1, n.1, q.1⟩, q.2)
def bodyOf (s : Str) : Str := ⟨(Go.Lib.trimSuffix s.data.toList [10]).toArray⟩
def wholeOf (s : Str) : Bool := Go.Lib.hasSuffix s.data.toList [10]
def wordsOf (s : Str) : List Str := (cutC 32 false s.data.toList).map fun l => (⟨l.toArray⟩ : Str)
def rdrOf (s : Str) : Rdr := ⟨wordsOf (bodyOf s), !wholeOf s⟩
def lineX (i : Nat) (s : Str) : Chg × Rdr := lineC i (rdrOf s)
def placeBad (i : Nat) (d : Chg) : Bool := decide (i < 18) && (d.side != (i / 9 : Nat) || d.slot != ((i % 9 : Nat) : Int) + 1)
def lineBad (i : Nat) (s : Str) : Bool := (lineX i s).2.bad || placeBad i (lineX i s).1 || decide (0 < (lineX i s).2.ws.length)
def pT : Nat → Tms → List Str → Tms
 | _, t, [] => t
 | i, t, x :: r => pT (i + 1) (if i < 18 then t.made (lineX i x).1 else t) r
def pL : Nat → List Str → List Chg
 | _, [] => []
 | i, x :: r => (if i < 18 then [] else [(lineX i x).1]) ++ pL (i + 1) r
def firstBad : Nat → List Str → Option Nat
 | _, [] => none
 | i, x :: r => if lineBad i x then some i else firstBad (i + 1) r
def linesK (s : Str) : List Str := (cutC 10 true s.data.toList).map fun l => (⟨l.toArray⟩ : Str)
def linesOf (s : Str) : List Str := if (linesK s).getLast? = some .empty then (linesK s).dropLast else linesK s
structure Parsed where
 t : Tms
 l : List Chg
 at_ : Int
 e : Int
def parseLs (ls : List Str) : Parsed := match firstBad 0 ls with
 | some i => ⟨.zero, [], i, 25⟩
 | none => if ls.length < 18 then ⟨.zero, [], ls.length, 28⟩
  else if checkChanges (pT 0 .zero ls) (pL 0 ls) ≠ 0 then ⟨.zero, [], 0, checkChanges (pT 0 .zero ls) (pL 0 ls)⟩
  else ⟨pT 0 .zero ls, pL 0 ls, 0, 0⟩
def parseR (s : Str) : Parsed := if 4096 < s.size then ⟨.zero, [], 0, 26⟩ else parseLs (linesOf s)

theorem pT_snoc (x : Str) : ∀ (xs : List Str) (i : Nat) (t : Tms), pT i t (xs ++ [x]) = if i + xs.length < 18 then (pT i t xs).made (lineX (i + xs.length) x).1 else pT i t xs
 | [], i, t => by simp only [List.nil_append, pT, List.length_nil, Nat.add_zero]
 | y :: r, i, t => by
  simp only [List.cons_append, pT]
  rw [pT_snoc x r (i + 1) _]
  simp only [List.length_cons]
  rw [show i + 1 + r.length = i + (r.length + 1) by omega]
theorem pL_snoc (x : Str) : ∀ (xs : List Str) (i : Nat), pL i (xs ++ [x]) = pL i xs ++ (if i + xs.length < 18 then [] else [(lineX (i + xs.length) x).1])
 | [], i => by simp [pL]
 | y :: r, i => by
  simp only [List.cons_append, pL]
  rw [pL_snoc x r (i + 1), List.append_assoc]
  simp only [List.length_cons]
  rw [show i + 1 + r.length = i + (r.length + 1) by omega]
theorem pT_take (ls : List Str) (t : Tms) (k : Nat) (hk : k < ls.length) : pT 0 t (ls.take (k + 1)) = if k < 18 then (pT 0 t (ls.take k)).made (lineX k (ls.getD k .empty)).1 else pT 0 t (ls.take k) := by
 rw [List.take_succ_eq_append_getElem hk, pT_snoc]
 have e : (ls.take k).length = k := by rw [List.length_take]; omega
 simp only [e, Nat.zero_add, List.getD, List.getElem?_eq_getElem hk, Option.getD_some]
theorem pL_take (ls : List Str) (k : Nat) (hk : k < ls.length) : pL 0 (ls.take (k + 1)) = pL 0 (ls.take k) ++ if k < 18 then [] else [(lineX k (ls.getD k .empty)).1] := by
 rw [List.take_succ_eq_append_getElem hk, pL_snoc]
 have e : (ls.take k).length = k := by rw [List.length_take]; omega
 simp only [e, Nat.zero_add, List.getD, List.getElem?_eq_getElem hk, Option.getD_some]
theorem firstBad_drop (ls : List Str) (k : Nat) (hk : k < ls.length) : firstBad k (ls.drop k) = if lineBad k (ls.getD k .empty) then some k else firstBad (k + 1) (ls.drop (k + 1)) := by
 rw [List.drop_eq_getElem_cons hk, firstBad]
 simp only [List.getD, List.getElem?_eq_getElem hk, Option.getD_some]
theorem pL_len : ∀ (ls : List Str) (i : Nat), (pL i ls).length ≤ ls.length
 | [], _ => Nat.le_refl _
 | x :: r, i => by
  have := pL_len r (i + 1)
  simp only [pL, List.length_append, List.length_cons]
  split <;> simp <;> omega
theorem pT_ok : ∀ (ls : List Str) (i : Nat) (t : Tms), t.ok → (pT i t ls).ok
 | [], _, _, h => h
 | x :: r, i, t, h => by
  unfold pT
  apply pT_ok
  split
  ·
   exact Tms.made_ok' t h _
  ·
   exact h
end L
end Go.Proofs.YtmagppkclnebjaaGreatDoor
