/- lineup.all: the stints of all slots of both sides. -/
import Derived.Test.YtmagppkclnebjaaGreatDoorR2
import Derived.Maps.AppendAt
set_option linter.unusedVariables false
set_option linter.unusedSimpArgs false
set_option linter.unusedSimpArgs false
namespace Go.Proofs.YtmagppkclnebjaaGreatDoor
open Go.RowKit Go.Shelf
open L
attribute [local go_sem] Oper.semAt_some

/-- append onto a row of the call's own, in a fence, and where the new row lies -/
theorem wpListIn_append_at {F : Fence} {n : Nat} {P : Program} (w : World) {ops : Array Oper} {rest : List Oper} {o : Oper} {a : Act} {Q : Exit → Act → World → Prop}
    (hg : o.guard = none) (s x : Operand) (t : TypeId) (hop : o.op = Op.call { callee := Callee.builtin Builtin.append, args := #[s, x], argTypes := #[t, t] })
    (base : Nat) (e : TypeId) (i : TypeInfo) (z : Value) (size bytes : Nat) (h1 : P.underlying t = some (.slice e)) (h2 : P.info? e = some i) (h3 : i.zero = some z) (h4 : i.size = size) (h5 : i.bytes = bytes) (h6 : z.cells.size = size) (h7 : 0 < size)
    (v : Value) (k : Nat) (xs : List Value) (hs : a.eval s = v) (hown : w.ownsRow base e size v k xs) (ad : Addr) (m c : Nat) (news : List Value) (hx : a.eval x = .slice (some ad) m c) (hn : news.length = m * size)
    (hc : ∀ j u, news[j]? = some u → w.cell? (ad.add j) = some u) (h1c : ∀ u ∈ news, u.oneCell' = true) (b1 : k + m ≤ maxLen) (b2 : (k + m) * bytes ≤ 140737488355328) (b3 : base ≤ w.heap.size)
    (hK : ∀ v' w', w'.ownsRow base e size v' (k + m) (xs ++ news) → w.grownBy w' v.ownBlock → (v'.ownBlock = v.ownBlock ∨ v'.ownBlock = some w.heap.size) → wpListIn F n P ops Q rest (a.put o.dst v') w') :
    wpListIn F n P ops Q (o :: rest) a w := by
  refine wpListIn_plain hg fun K hK' => ?_
  obtain ⟨v', w', hrun, r1, r2, _, r4⟩ := run_append_own_at (P := P) w base t o.type e i z size bytes h1 h2 h3 h4 h5 h6 h7 v k xs hown ad m c news hn hc h1c b1 b2 b3
  unfold Oper.wpIn
  refine ⟨?_, ?_⟩
  · simp [Oper.about, hop, resolve, Target.leads, Sem.run_pure]
  · rw [Oper.semAt_plain F _ _ (by rw [hop]; intro c hc'; cases hc')]
    simp [execOp, hop, resolve, invoke, builtin, hs, hx, hrun, Result.andThen]
    exact hK' _ _ (hK v' w' r1 r2 r4)

def flatS (S : List Sti) : List Value := S.flatMap fun s => s.val.toList
theorem flatS_append (S R : List Sti) : flatS (S ++ R) = flatS S ++ flatS R := by simp [flatS]
theorem flatS_one (x : Sti) : flatS [x] = x.val.toList := by simp [flatS]
theorem flatS_len : ∀ S : List Sti, (flatS S).length = S.length * 6
  | [] => rfl
  | s :: r => by
    have := flatS_len r
    simp only [flatS, List.flatMap_cons, List.length_append, List.length_cons] at this ⊢
    rw [this]; simp [L.Sti.val]; omega
theorem stLoop_len (n side slot : Int) : ∀ (r : List Chg) (now : Sti), (stLoop n side slot now r).length ≤ r.length + 1
  | [], now => by unfold stLoop; split <;> simp
  | d :: r, now => by
    unfold stLoop
    split
    · have := stLoop_len n side slot r now
      simp only [List.length_cons]; omega
    · have := stLoop_len n side slot r ⟨side, slot, d.pos, d.name, d.play, 0⟩
      simp only [List.length_append, List.length_cons]
      split <;> simp <;> omega
theorem sideL_len (t : Tms) (l : List Chg) (n side : Int) : ∀ k : Nat, (sideL t l n side k).length ≤ k * (l.length + 1)
  | 0 => by simp [sideL]
  | k + 1 => by
    have h1 := sideL_len t l n side k
    have h2 : (stintsL t l n side ((k : Int) + 1)).length ≤ l.length + 1 := stLoop_len _ _ _ _ _
    rw [sideL_succ, List.length_append, Nat.add_mul]; omega
/-- the stints of the first d sides -/
def sidesL (t : Tms) (l : List Chg) (n : Int) (d : Nat) : List Sti := (List.range d).flatMap fun (s : Nat) => sideL t l n s 9
theorem sidesL_succ (t : Tms) (l : List Chg) (n : Int) (d : Nat) : sidesL t l n (d + 1) = sidesL t l n d ++ sideL t l n d 9 := by simp [sidesL, List.range_succ]
theorem sidesL_two (t : Tms) (l : List Chg) (n : Int) : sidesL t l n 2 = allL t l n := by simp [sidesL, List.range_succ, allL]
theorem sidesL_len (t : Tms) (l : List Chg) (n : Int) (d : Nat) : (sidesL t l n d).length ≤ d * (9 * (l.length + 1)) := by
  induction d with
  | zero => simp [sidesL]
  | succ d ih =>
    have := sideL_len t l n d 9
    rw [sidesL_succ, List.length_append, Nat.add_mul]; omega

/-- the marks of loops over iterators that lie behind: blocks from lo on, below b -/
def Marks (lo b : Nat) (W : World) : List Deferred → Prop
  | [] => True
  | d :: r => (∃ D, lo ≤ D ∧ D < b ∧ d = { target := .collected D, args := #[] } ∧ W.heap[D]? = some (.deferred (some []))) ∧ (∀ d' ∈ r, d' ≠ d) ∧ Marks lo b W r
theorem Marks.kept' {lo b b' : Nat} {W W' : World} (hb : b ≤ b') : ∀ {ds : List Deferred}, Marks lo b W ds → (∀ D, { target := .collected D, args := #[] } ∈ ds → W.heap[D]? = some (.deferred (some [])) → W'.heap[D]? = some (.deferred (some []))) → Marks lo b' W' ds
  | [], _, _ => trivial
  | _ :: _, ⟨⟨D, h1, h2, h3, h4⟩, h5, h6⟩, hk => ⟨⟨D, h1, by omega, h3, hk D (by rw [h3]; simp) h4⟩, h5, Marks.kept' hb h6 (fun D' hm hd => hk D' (List.mem_cons_of_mem _ hm) hd)⟩
theorem Marks.kept {lo b b' : Nat} {W W' : World} (hb : b ≤ b') : ∀ {ds : List Deferred}, Marks lo b W ds → (∀ D, lo ≤ D → D < b → W.heap[D]? = some (.deferred (some [])) → W'.heap[D]? = some (.deferred (some []))) → Marks lo b' W' ds
  | [], _, _ => trivial
  | _ :: _, ⟨⟨D, h1, h2, h3, h4⟩, h5, h6⟩, hk => ⟨⟨D, h1, by omega, h3, hk D h1 h2 h4⟩, h5, Marks.kept hb h6 hk⟩
theorem Marks.mem {lo b : Nat} {W : World} : ∀ {ds : List Deferred}, Marks lo b W ds → ∀ d ∈ ds, ∃ D, D < b ∧ d = { target := .collected D, args := #[] }
  | [], _, _, h => by cases h
  | e :: r, ⟨⟨D, _, h2, h3, _⟩, _, h6⟩, d, h => by
    rcases List.mem_cons.1 h with rfl | h
    · exact ⟨D, h2, h3⟩
    · exact Marks.mem h6 d h
theorem Marks.push {lo b D : Nat} {W : World} {ds : List Deferred} (h : Marks lo b W ds) (hlo : lo ≤ D) (hD : b ≤ D) (hk : W.heap[D]? = some (.deferred (some []))) : Marks lo (D + 1) W ({ target := .collected D, args := #[] } :: ds) := by
  refine ⟨⟨D, hlo, by omega, rfl, hk⟩, fun d' hd' e => ?_, h.kept (by omega) (fun _ _ _ h => h)⟩
  obtain ⟨D', h1, h2⟩ := h.mem d' hd'
  rw [h2] at e
  injection e with e
  injection e with e
  omega
/-- a function whose activation holds marks leaves as one without them, where what is to be shown abides the marks' taking -/
theorem leaves_marks {F : Fence} {n : Nat} {P : Program} {fn : Func} {tmps : Array Value} {R : Ending → World → Prop} {lo b : Nat} (P0 : World → Prop)
    (hput : ∀ W D, P0 W → lo ≤ D → W.heap[D]? = some (.deferred (some [])) → P0 (W.putObj D (.deferred none))) (hend : ∀ W, P0 W → LeavesIn F n P fn tmps R [] .returning W) :
    ∀ (ds : List Deferred) (W : World), Marks lo b W ds → P0 W → LeavesInM F n P fn tmps R ds .returning W
  | [], W, _, h => hend W h
  | d :: r, W, ⟨⟨D, h1, h2, h3, h4⟩, h5, h6⟩, h => by
    refine ⟨by simp, .inl ⟨D, _, by rw [h3], run_takeDeferred h4, ?_⟩⟩
    refine leaves_marks P0 hput hend r _ (h6.kept' (Nat.le_refl _) ?_) (hput W D h h1 h4)
    intro D' hm hk
    by_cases e : D' = D
    · exact absurd (by rw [e, ← h3]) (h5 _ hm)
    · rw [World.putObj_heap_other e]; exact hk

theorem wpListIn_load_row {F : Fence} {n : Nat} {P : Program} {ops : Array Oper} {rest : List Oper} {o : Oper} {a : Act} {w : World} {Q : Exit → Act → World → Prop} (hgd : o.guard = none) (ty : TypeId) (x : Operand) (ho : o.op = .load ty x)
    (g : Nat) (hx : a.eval x = .pointer (some ⟨g, 0, none⟩)) (t : TypeId) (cs : Array Value) (fr : Nat × Nat) (d : TypeDesc) (hg : w.heap[g]? = some (.cells cs t fr))
    (hu : P.underlying ty = some d) (hd : (match d with | .struct _ | .array _ _ => true | _ => false) = true) (hi : (P.info? ty).map (·.size) = some cs.size)
    (h : wpListIn F n P ops Q rest (a.put o.dst (.agg cs)) w) : wpListIn F n P ops Q (o :: rest) a w := by
  refine wpListIn_plain hgd fun K hK' => ?_
  unfold Oper.wpIn
  refine ⟨?_, ?_⟩
  · simp [Oper.about, ho]
  · rw [Oper.semAt_plain F _ _ (by rw [ho]; intro c hc'; cases hc')]
    simp only [execOp, ho, hx, Instr.loadAt, Instr.sureAddr, Sem.run_bind, Sem.run_pure, Result.andThen_ok, run_loadVar_row w g t ty cs fr d hg hu hd hi]
    exact hK' _ _ h
theorem info107 : (Tryz.prog.info? 107).map (fun i => (i.zero, i.size, i.bytes)) = some (some (.agg #[.int .i64 0, .int .i64 0, .int .i64 0, .string { data := #[] }, .int .i64 0, .int .i64 0]), 6, 56) := by kernel_rfl

/-- what holds between two statements: h: where the call began -/
structure StA (w : World) (t : Tms) (W : World) (S : List Sti) (v : Value) (ds : List Deferred) : Prop where
  below : Below w.heap.size w W
  bt : Bk W w.heap.size 54 t.cells.toArray
  bo : Bk W (w.heap.size + 1) 86 #[v]
  own : W.ownsRow (w.heap.size + 2) 107 6 v S.length (flatS S)
  marks : Marks (w.heap.size + 2) W.heap.size W ds

/-- what holds between two rounds of the loop over the iterator: g: where its variables lie -/
def IA (w : World) (t : Tms) (g : Nat) (S0 : List Sti) (ds : List Deferred) (pre : List Sti) (X : World) : Prop :=
  ∃ v : Value, Below w.heap.size w X ∧ Bk X w.heap.size 54 t.cells.toArray ∧ Bk X (w.heap.size + 1) 86 #[v] ∧ X.ownsRow (w.heap.size + 2) 107 6 v (S0 ++ pre).length (flatS (S0 ++ pre)) ∧
    (∀ r, v.ownBlock = some r → r < g ∨ g + 7 < r) ∧ Marks (w.heap.size + 2) g X ds
theorem IA.grown {w : World} {t : Tms} {g : Nat} {S0 pre : List Sti} {ds : List Deferred} {X Y : World} {row : Option Nat} (hh : w.heap.size + 2 ≤ g) (h : IA w t g S0 ds pre X) (hg : X.grownBy Y row) (hr : ∀ r, row = some r → g ≤ r ∧ r ≤ g + 7) : IA w t g S0 ds pre Y := by
  obtain ⟨v, h1, h2, h3, h4, h5, h6⟩ := h
  have l3 := h3.lt
  refine ⟨v, h1.grown hg (by omega) (fun r e => by have := hr r e; omega), (hg.block _ (by omega) (fun e => by have := hr _ e.symm; omega)).trans h2, (hg.block _ l3 (fun e => by have := hr _ e.symm; omega)).trans h3, ?_, h5, ?_⟩
  · refine h4.kept hg ?_
    cases hv : v.ownBlock with
    | none => exact .inl rfl
    | some r =>
      refine .inr fun e => ?_
      have a1 := hr r e.symm
      have a2 := h5 r hv
      omega
  · refine h6.kept (Nat.le_refl _) fun D hl hb hD => (hg.block D (Array.getElem?_eq_some_iff.1 hD).1 (fun e => by have := hr _ e.symm; omega)).trans hD
/-- a store behind an append: what else lay lies -/
theorem same_behind {X w1 : World} {o : Obj} {v u : Value} {b ob : Nat} (hg : (X.alloc o).grownBy w1 v.ownBlock) {q : Obj} (hb : X.heap[b]? = some q) (h1 : b ≠ ob) (h2 : v.ownBlock ≠ some b) : (w1.setCell ⟨ob, 0, none⟩ u).heap[b]? = some q := by
  have hlt : b < X.heap.size := (Array.getElem?_eq_some_iff.1 hb).1
  rw [Below.heap_setCell w1 ⟨ob, 0, none⟩ u b h1, hg.block b (by rw [World.size_alloc]; omega) (fun e => h2 e.symm), Below.heap_alloc X o b hlt]
  exact hb
theorem row_is {W : World} {base : Nat} {e : TypeId} {size n : Nat} {v : Value} {xs : List Value} (h : W.ownsRow base e size v n xs) {b : Nat} (hb : v.ownBlock = some b) : ∃ cs, W.heap[b]? = some (.cells cs e (0, 0)) := by
  rcases h.2 with ⟨rfl, _⟩ | ⟨g, cap, cur, rfl, _, hg, _⟩
  · cases hb
  · have : g = b := by simpa [Value.ownBlock] using hb
    subst this
    exact ⟨_, hg⟩
theorem KpS.trans {n0 g B : Nat} {X Y Z : World} (h : KpS n0 g B X Y) (k : KpS n0 g B Y Z) : KpS n0 g B X Z :=
  ⟨h.1.trans k.1, Nat.le_trans h.2.1 k.2.1, fun b h1 h2 => (k.2.2.1 b h1 h2).trans (h.2.2.1 b h1 h2), fun b cs hb => k.2.2.2 b cs (h.2.2.2 b cs hb)⟩

set_option maxHeartbeats 8000000 in
set_option maxRecDepth 100000 in
theorem all_any (t : Tms) (ht : t.ok) (T : Array Value) (hT : T = t.cells.toArray) (l : List Chg) (A : Option Addr) (k c : Nat) (hk : l.length = k) (hle : k ≤ 64) (p : Int) (w : World) (hl : RdC w A l) :
    Calls Tryz.prog 98 #[.agg T, .slice A k c, .int .i64 p] w fun x w' => (∃ v, x = .returned v ∧ w'.ownsRow w.heap.size 107 6 v (allL t l p).length (flatS (allL t l p))) ∧ Below w.heap.size w w' := by
  obtain ⟨i0, hi, hz0, hz1, hz2⟩ := info_parts info107
  have F : Hid (StA w t ((w.alloc (.cells T 54)).alloc (.cells #[.slice none 0 0] 86)) [] (.slice none 0 0) []) := by
    refine ⟨bt_alloc (bt_new w _) _, by rw [← hT]; exact (Bk.new w 54 T).alloc _, ?_, World.ownsRow_nil _ _ _ _, trivial⟩
    have := Bk.new (w.alloc (.cells T 54)) 86 #[.slice none 0 0]
    rwa [World.size_alloc] at this
  have Hl := Lib.hid hl; have Hk := Lib.hid hk; have Ht := Lib.hid ht
  have Hi := Lib.hid (info54s t.cells.toArray.size (Tms.size36 t ht))
  clear hl hk ht hT
  refine (callsIn_wide (n := 5)).1 ?_
  refine callsIn_of_wp_marks Tryz.func98 rfl trivial ?_ rfl
  simp only [Tryz.ntmps98, List.size_toArray, List.length_cons, List.length_nil, Nat.reduceAdd, Nat.reduceSub, Array.replicate_succ, Array.replicate_zero, List.push_toArray, List.append_toArray, List.nil_append, List.cons_append]
  gi_upto_region 2 with fail
  generalize ((w.alloc (.cells T 54)).alloc (.cells #[.slice none 0 0] 86)) = W1 at F ⊢
  gi_wp2
  refine wpIn_loop (fun a' W' => ∃ (d : Nat) (S : List Sti) (v : Value) (ds : List Deferred) (u8 u9 u12 u13 u14 u15 u16 u17 u18 u19 u20 u21 u22 u23 u29 : Value), d ≤ 2 ∧ S = sidesL t l p d ∧ StA w t W' S v ds ∧
    a' = { tmps := #[.agg T, .slice A k c, .int .i64 p, .pointer (some ⟨w.heap.size, 0, none⟩), undef, undef, .slice none 0 0, .pointer (some ⟨w.heap.size + 1, 0, none⟩), u8, u9, undef, .int .i64 d, u12, u13, u14, u15, u16, u17, u18, u19, u20, u21, u22, u23, undef, undef, undef, undef, undef, u29, undef], defers := ds })
    (fun a' _ => 2 - (intOf (a'.tmps.getD 11 undef)).toNat) ?_ ?_
  · exact ⟨0, [], _, [], _, _, _, _, _, _, _, _, _, _, _, _, _, _, _, by omega, by simp [sidesL], F.out, rfl⟩
  · rintro a' W' ⟨d, S, v, ds, u8, u9, u12, u13, u14, u15, u16, u17, u18, u19, u20, u21, u22, u23, u29, hd, hS, hst, rfl⟩
    clear F
    have Hst := Lib.hid hst; have HS := Lib.hid hS; clear hst hS
    by_cases hd2 : d < 2
    · gi_upto_region 6 with fail
      have hd0 : (d : Int) = 0 ∨ (d : Int) = 1 := by omega
      refine wpIn_loop (fun a' W' => ∃ (j : Nat) (S : List Sti) (v : Value) (ds : List Deferred) (u12 u14 u15 u16 u17 u18 u19 u20 u21 u22 u23 : Value), j ≤ 9 ∧ S = sidesL t l p d ++ sideL t l p d j ∧ StA w t W' S v ds ∧
        a' = { tmps := #[.agg T, .slice A k c, .int .i64 p, .pointer (some ⟨w.heap.size, 0, none⟩), undef, undef, .slice none 0 0, .pointer (some ⟨w.heap.size + 1, 0, none⟩), .int .i64 d, .int .i64 ((j : Int) + 1), undef, .int .i64 d, u12, .int .i64 d, u14, u15, u16, u17, u18, u19, u20, u21, u22, u23, undef, undef, undef, undef, undef, u29, undef], defers := ds })
        (fun a' _ => 10 - (intOf (a'.tmps.getD 9 undef)).toNat) ?_ ?_
      · exact ⟨0, S, v, ds, _, _, _, _, _, _, _, _, _, _, _, by omega, by rw [HS.out]; simp [sideL], Hst.out, rfl⟩
      · clear Hst HS
        rintro a' W' ⟨j, S, v, ds, u12, u14, u15, u16, u17, u18, u19, u20, u21, u22, u23, hj, hS, hst, rfl⟩
        have Hst := Lib.hid hst; have HS := Lib.hid hS; clear hst hS
        by_cases hj9 : j < 9
        · gi_wp2_with (first
            | (refine wpListIn_load_row rfl 54 _ rfl w.heap.size rfl 54 t.cells.toArray (0, 0) _ Hst.out.bt Tryz.underlying54 rfl Hi.out ?_)
            | (refine ⟨trivial, ?_⟩; gi_at_call 132; refine (callsIn_wide.2 (stints_any _ _ _ _ _ _ _ _)).mono ?_; rintro e w2 ⟨rfl, rfl⟩)
            | (gi_at_call 132; refine (callsIn_wide.2 (stints_any _ _ _ _ _ _ _ _)).mono ?_; rintro e w2 ⟨rfl, rfl⟩))
          have hsz : (((((W'.alloc (.cells t.cells.toArray 54)).alloc (.cells #[.slice A k c] 56)).alloc (.cells #[.int .i64 p] 3)).alloc (.cells #[.int .i64 d] 3)).alloc (.cells #[.int .i64 ((j : Int) + 1)] 3)).heap.size = W'.heap.size + 5 := by simp
          have hbe : Below W'.heap.size W' (((((W'.alloc (.cells t.cells.toArray 54)).alloc (.cells #[.slice A k c] 56)).alloc (.cells #[.int .i64 p] 3)).alloc (.cells #[.int .i64 d] 3)).alloc (.cells #[.int .i64 ((j : Int) + 1)] 3)) := bt_alloc (bt_alloc (bt_alloc (bt_alloc (bt_new W' _) _) _) _) _
          have hcp : Caps (((((W'.alloc (.cells t.cells.toArray 54)).alloc (.cells #[.slice A k c] 56)).alloc (.cells #[.int .i64 p] 3)).alloc (.cells #[.int .i64 d] 3)).alloc (.cells #[.int .i64 ((j : Int) + 1)] 3)) W'.heap.size t A k c p d ((j : Int) + 1) := by
            refine ⟨((((Bk.new W' 54 t.cells.toArray).alloc _).alloc _).alloc _).alloc _, ?_, ?_, ?_, ?_⟩
            · have := Bk.new (W'.alloc (.cells t.cells.toArray 54)) 56 #[.slice A k c]
              rw [World.size_alloc] at this
              exact ((this.alloc _).alloc _).alloc _
            · have := Bk.new ((W'.alloc (.cells t.cells.toArray 54)).alloc (.cells #[.slice A k c] 56)) 3 #[.int .i64 p]
              rw [World.size_alloc, World.size_alloc] at this
              exact (this.alloc _).alloc _
            · have := Bk.new (((W'.alloc (.cells t.cells.toArray 54)).alloc (.cells #[.slice A k c] 56)).alloc (.cells #[.int .i64 p] 3)) 3 #[.int .i64 d]
              rw [World.size_alloc, World.size_alloc, World.size_alloc] at this
              exact this.alloc _
            · have := Bk.new ((((W'.alloc (.cells t.cells.toArray 54)).alloc (.cells #[.slice A k c] 56)).alloc (.cells #[.int .i64 p] 3)).alloc (.cells #[.int .i64 d] 3)) 3 #[.int .i64 ((j : Int) + 1)]
              rwa [World.size_alloc, World.size_alloc, World.size_alloc, World.size_alloc] at this
          generalize (((((W'.alloc (.cells t.cells.toArray 54)).alloc (.cells #[.slice A k c] 56)).alloc (.cells #[.int .i64 p] 3)).alloc (.cells #[.int .i64 d] 3)).alloc (.cells #[.int .i64 ((j : Int) + 1)] 3)) = w2 at hsz hbe hcp ⊢
          have hgl := Hst.out.bo.lt
          have hIA : IA w t W'.heap.size S ds [] w2 := by
            refine ⟨v, Hst.out.below.trans (hbe.mono (by omega)), Hst.out.bt.below hbe Hst.out.bt.lt, Hst.out.bo.below hbe hgl, ?_, ?_, ?_⟩
            · rw [List.append_nil]
              exact Hst.out.own.kept (show W'.grownBy w2 none from ⟨hbe.os, hbe.tape, hbe.output, hbe.size, fun i hi _ => hbe.block i hi⟩) (by cases hv : v.ownBlock with | none => exact .inl rfl | some r => exact .inr (by simp))
            · intro r hr
              exact .inl ((Hst.out.own.lt r hr).2)
            · exact Hst.out.marks.kept (Nat.le_refl _) fun D _ hb hD => (hbe.block D hb).trans hD
          generalize hg : W'.heap.size = g at hsz hbe hcp hgl hIA ⊢
          have HIA := Lib.hid hIA; have Hcp := Lib.hid hcp; clear hIA hcp
          have hbw : Below w.heap.size w w2 := Hst.out.below.trans (hbe.mono (by omega))
          have hlenS : S.length ≤ 1170 - 65 := by
            have h1 := sidesL_len t l p d
            have h2 := sideL_len t l p d j
            have h3 : d * (9 * (l.length + 1)) ≤ 1 * (9 * 65) := Nat.mul_le_mul (by omega) (by rw [Hk.out]; omega)
            have h4 : j * (l.length + 1) ≤ 8 * 65 := Nat.mul_le_mul (by omega) (by rw [Hk.out]; omega)
            rw [HS.out, List.length_append]
            omega
          have hlenX : (stintsL t l p d ((j : Int) + 1)).length ≤ 65 := by
            have := stLoop_len p d ((j : Int) + 1) l ⟨d, (j : Int) + 1, (t.get d).at_ ((j : Int) + 1), (t.get d).bat ((j : Int) + 1), 0, 0⟩
            rw [Hk.out] at this
            exact Nat.le_trans this (by omega)
          refine wpIn_rangeFunc_row rfl (by omega) (gf := 151) (lb := #[.pointer (some ⟨g + 3, 0, none⟩), .pointer (some ⟨g + 4, 0, none⟩), .pointer (some ⟨g, 0, none⟩), .pointer (some ⟨g + 1, 0, none⟩), .pointer (some ⟨g + 2, 0, none⟩)]) rfl trivial (enters_of Tryz.func151 (by kernel_rfl) rfl)
            (encs := fun x : Sti => #[.agg #[.int .i64 x.side, .int .i64 x.slot, .int .i64 x.pos, .string x.name, .int .i64 x.fr, .int .i64 x.to]]) (Kp := KpS w.heap.size g (g + 7)) (xs := stintsL t l p d ((j : Int) + 1))
            ?hseq (fun h k => h.trans k) ?hKb (fun _ => rfl) (IA w t g S ds) ?hI HIA.out
            (fun x a' X => ∃ Bx, g + 7 < Bx ∧ Bk X Bx 107 x.val ∧ a' = { tmps := #[.agg T, .slice A k c, .int .i64 p, .pointer (some ⟨w.heap.size, 0, none⟩), undef, undef, .slice none 0 0, .pointer (some ⟨w.heap.size + 1, 0, none⟩), .int .i64 d, .int .i64 ((j : Int) + 1), .pointer (some ⟨Bx, 0, none⟩), .int .i64 d, u12, .int .i64 d, .int .i64 ((j : Int) + 1), .bool true, u16, u17, .agg t.cells.toArray, .slice A k c, .int .i64 p, .int .i64 d, .int .i64 ((j : Int) + 1), .func (.func 151) #[] #[.pointer (some ⟨g + 3, 0, none⟩), .pointer (some ⟨g + 4, 0, none⟩), .pointer (some ⟨g, 0, none⟩), .pointer (some ⟨g + 1, 0, none⟩), .pointer (some ⟨g + 2, 0, none⟩)], .agg #[.int .i64 x.side, .int .i64 x.slot, .int .i64 x.pos, .string x.name, .int .i64 x.fr, .int .i64 x.to], undef, undef, undef, undef, u29, undef], defers := [] })
            ?hAx ?hassign ?hbody ?hdone
          case hseq =>
            intro lp J X hX hXs hJ hY h0
            exact stints1_in 4 (by omega) t Ht.out l A k c Hk.out (by omega) p d ((j : Int) + 1) hd0 (by omega) (by omega) g (g + 7) w.heap.size (by omega) (by omega) w rfl Hl.out lp J X (by omega) (hbw.trans (hX.mono hbw.size)) (Hcp.out.kept fun b _ hb => hX.block b (by omega)) (by rw [hsz] at hJ; exact hJ)
              (fun pre x W1 hj hl hB => hY pre x W1 hj hl (by omega)) h0
          case hKb =>
            intro X o o' ho hnc
            rw [hsz] at ho ⊢
            have hlt := (Array.getElem?_eq_some_iff.1 ho).1
            refine ⟨(Below.refl _ X).grown (grownBy_putObj' X _ _) (by omega) (fun r e => by have := Option.some.inj e; omega), by simp, fun b _ hb => World.putObj_heap_other (by omega), fun b cs hb => ?_⟩
            refine (World.putObj_heap_other (fun e => ?_)).trans hb
            subst e
            unfold Bk at hb
            rw [hb] at ho
            cases ho
            cases hnc
          case hI =>
            intro s X Y row hs hg' hr
            refine hs.grown (by omega) hg' (fun r e => ?_)
            rw [hsz] at hr
            rcases hr with rfl | rfl | rfl
            · cases e
            · have := Option.some.inj e; omega
            · have := Option.some.inj e; omega
          case hAx =>
            rintro x a' X Y ⟨Bx, h1, h2, h3⟩ hg'
            exact ⟨Bx, h1, (hg'.block Bx h2.lt (fun e => by have := Option.some.inj e; omega)).trans h2, h3⟩
          case hassign =>
            intro lp pre x X K hi hbig hK
            rw [hsz] at hbig hK
            gi_wp2
            refine hK _ _ ⟨by simp, fun b o _ h0 _ => (Below.heap_alloc X _ b (Array.getElem?_eq_some_iff.1 h0).1).trans h0⟩ ⟨(Below.refl _ X).alloc (by omega) _, by simp, fun b _ hb => Below.heap_alloc X _ b (by omega), fun b cs hb => hb.alloc _⟩ (hi.grown (by omega) (World.grownBy_alloc X _ none) (fun r e => by cases e)) ⟨X.heap.size, by omega, Bk.new X 107 _, rfl⟩
          case hbody =>
            rintro lp pre x a' X ⟨v, hB, hbt, hbo, hown, hvb, hmk⟩ ⟨Bx, hBx, hbx, rfl⟩ hlen hbig
            rw [hsz] at hbig
            obtain ⟨R, hR⟩ : ∃ R, R = S ++ pre := ⟨_, rfl⟩
            rw [← hR] at hown
            have hlenT : R.length ≤ 1169 := by
              rw [hR, List.length_append]; omega
            have HR := Lib.hid hR; clear hR
            have HB := Lib.hid hB; have Hbt := Lib.hid hbt; have Hbo := Lib.hid hbo; have Hown := Lib.hid hown; have Hvb := Lib.hid hvb; have Hmk := Lib.hid hmk
            clear hB hbt hmk hvb
            have cv : X.cell? ⟨w.heap.size + 1, 0, none⟩ = some v := by rw [hbo.cell]; rfl
            have b0 : X.cell? ⟨Bx, 0, none⟩ = some (.int .i64 x.side) := by rw [hbx.cell]; rfl
            have b1 : X.cell? ⟨Bx, 1, none⟩ = some (.int .i64 x.slot) := by rw [hbx.cell]; rfl
            have b2 : X.cell? ⟨Bx, 2, none⟩ = some (.int .i64 x.pos) := by rw [hbx.cell]; rfl
            have b3 : X.cell? ⟨Bx, 3, none⟩ = some (.string x.name) := by rw [hbx.cell]; rfl
            have b4 : X.cell? ⟨Bx, 4, none⟩ = some (.int .i64 x.fr) := by rw [hbx.cell]; rfl
            have b5 : X.cell? ⟨Bx, 5, none⟩ = some (.int .i64 x.to) := by rw [hbx.cell]; rfl
            have hol := hbo.lt
            have hnew := Bk.new X 107 #[.int .i64 x.side, .int .i64 x.slot, .int .i64 x.pos, .string x.name, .int .i64 x.fr, .int .i64 x.to]
            have hcs : ∀ j' u, (#[.int .i64 x.side, .int .i64 x.slot, .int .i64 x.pos, .string x.name, .int .i64 x.fr, .int .i64 x.to] : Array Value).toList[j']? = some u → (X.alloc (.cells #[.int .i64 x.side, .int .i64 x.slot, .int .i64 x.pos, .string x.name, .int .i64 x.fr, .int .i64 x.to] 107)).cell? ((⟨X.heap.size, 0, none⟩ : Addr).add j') = some u := fun j' u hu => by
              rw [Addr.add_mid, Nat.zero_add, hnew.cell, ← hu, Array.getElem?_toList]
            have Hcs := Lib.hid hcs
            have hbo1 : Bk (X.alloc (.cells #[.int .i64 x.side, .int .i64 x.slot, .int .i64 x.pos, .string x.name, .int .i64 x.fr, .int .i64 x.to] 107)) (w.heap.size + 1) 86 #[v] := hbo.alloc _
            have Hbo1 := Lib.hid hbo1
            have hvo : v.ownBlock ≠ some (w.heap.size + 1) := fun e => by have := (hown.lt _ e).1; omega
            clear hbo hown hnew hcs hbo1 hbx
            gi_wp2_with (gi_at_builtin; refine wpListIn_append_at _ rfl _ _ 86 rfl (w.heap.size + 2) 107 i0 (.agg #[.int .i64 0, .int .i64 0, .int .i64 0, .string { data := #[] }, .int .i64 0, .int .i64 0]) 6 56 Tryz.underlying86 hi hz0 hz1 hz2 rfl (by decide) _ _ _ rfl (Hown.out.alloc _) ⟨X.heap.size, 0, none⟩ 1 1 (#[.int .i64 x.side, .int .i64 x.slot, .int .i64 x.pos, .string x.name, .int .i64 x.fr, .int .i64 x.to] : Array Value).toList rfl rfl Hcs.out (by simp [Value.oneCell']) (by unfold maxLen; omega) (by omega) (by simp; omega) ?_; intro v' w1 hown' hgrow hloc; obtain ⟨g', cap', rfl⟩ := ownsRow_succ hown'; have hbo2 : Bk w1 (w.heap.size + 1) 86 #[v] := (hgrow.block _ (by simp; omega) (fun e => hvo e.symm)).trans Hbo1.out; have cw : w1.cell? ⟨w.heap.size + 1, 0, none⟩ = some v := (by rw [hbo2.cell]; rfl); have fw := hbo2.frozen 0)
            have hsame : ∀ b q, X.heap[b]? = some q → b ≠ w.heap.size + 1 → v.ownBlock ≠ some b → (w1.setCell ⟨w.heap.size + 1, 0, none⟩ (.slice (some ⟨g', 0, none⟩) (R.length + 1) cap')).heap[b]? = some q := fun b q h1 h2 h3 => same_behind hgrow h1 h2 h3
            have hrow : ∀ b, v.ownBlock = some b → ∃ cs, X.heap[b]? = some (.cells cs 107 (0, 0)) := fun b hb => row_is Hown.out hb
            have hsz1 : X.heap.size + 1 ≤ w1.heap.size := by have := hgrow.size; simpa using this
            refine ⟨⟨by simpa [World.setCell] using (by omega : X.heap.size ≤ w1.heap.size), fun b o hb h0 hnc => hsame b o h0 (by omega) (fun e => ?_)⟩, ⟨?_, by simpa [World.setCell] using (by omega : X.heap.size ≤ w1.heap.size), fun b h1 h2 => ?_, fun b cs hb => ?_⟩, ?_⟩
            · obtain ⟨cs, hcs⟩ := hrow b e
              rw [hcs] at h0
              cases h0
              cases hnc
            · exact (((Below.refl w.heap.size X).alloc (by omega) _).grown hgrow (by simp; omega) (fun r hr => by have := (Hown.out.lt r hr).1; omega)).setCell (p := ⟨w.heap.size + 1, 0, none⟩) (by show w.heap.size ≤ w.heap.size + 1; omega) _
            · have hbl : b < X.heap.size := by omega
              rw [Array.getElem?_eq_getElem hbl]
              exact hsame b _ (Array.getElem?_eq_getElem hbl) (by omega) (fun e => by have := Hvb.out b e; omega)
            · refine hsame b _ hb (fun e => ?_) (fun e => ?_)
              · subst e
                have h1 := Hbo.out
                unfold Bk at h1 hb
                rw [h1] at hb
                cases hb
              · obtain ⟨cs', hcs⟩ := hrow b e
                unfold Bk at hb
                rw [hcs] at hb
                cases hb
            · refine ⟨_, (((HB.out).alloc (by omega) _).grown hgrow (by simp; omega) (fun r hr => by have := (Hown.out.lt r hr).1; omega)).setCell (p := ⟨w.heap.size + 1, 0, none⟩) (by show w.heap.size ≤ w.heap.size + 1; omega) _, ?_, hbo2.set_ 0 _, ?_, ?_, ?_⟩
              · exact hsame _ _ Hbt.out (by omega) (fun e => by have := (Hown.out.lt _ e).1; omega)
              · have h1 := hown'.kept (grownBy_setCell' w1 (w.heap.size + 1) (.slice (some ⟨g', 0, none⟩) (R.length + 1) cap')) (.inr (fun e => by have := (hown'.lt _ e).1; omega))
                rw [← List.append_assoc, ← HR.out, flatS_append R, flatS_one, List.length_append]
                exact h1
              · intro r hr
                rcases hloc with e | e
                · exact Hvb.out r (e ▸ hr)
                · rw [hr] at e
                  have := Option.some.inj e
                  simp at this
                  omega
              · refine Hmk.out.kept (Nat.le_refl _) fun D hl hb hD => hsame D _ hD (by omega) (fun e => ?_)
                obtain ⟨cs, hcs⟩ := hrow D e
                rw [hcs] at hD
                cases hD
          case hdone =>
            rintro X ⟨v', hB, hbt, hbo, hown, hvb, hmk⟩ hD
            rw [hsz] at hD ⊢
            have hDl := (Array.getElem?_eq_some_iff.1 hD).1
            have hst : StA w t X (S ++ stintsL t l p d ((j : Int) + 1)) v' ({ target := .collected (g + 5), args := #[] } :: ds) :=
              ⟨hB, hbt, hbo, hown, (hmk.push (D := g + 5) (by omega) (by omega) hD).kept (by omega) (fun _ _ _ h => h)⟩
            have Hst2 := Lib.hid hst
            clear hB hbt hbo hown hvb hmk hD hst
            gi_wp2
            refine ⟨⟨j + 1, _, v', _, _, _, _, _, _, _, _, _, _, _, _, by omega, ?_, Hst2.out, rfl⟩, ?_⟩
            · rw [HS.out, sideL_succ, List.append_assoc]
            · simp [intOf]; omega
        · obtain rfl : j = 9 := by omega
          gi_wp2
          refine ⟨⟨d + 1, S, v, ds, _, _, _, _, _, _, _, _, _, _, _, _, _, _, _, by omega, by rw [sidesL_succ]; exact HS.out, Hst.out, rfl⟩, ?_⟩
          simp [intOf]; omega
    · obtain rfl : d = 2 := by omega
      have cv : W'.cell? ⟨w.heap.size + 1, 0, none⟩ = some v := by rw [Hst.out.bo.cell]; rfl
      gi_wp2
      refine leaves_marks (lo := w.heap.size + 2) (b := W'.heap.size) (fun X => X.ownsRow (w.heap.size + 2) 107 6 v (allL t l p).length (flatS (allL t l p)) ∧ Below w.heap.size w X) ?_ ?_ ds W' Hst.out.marks ?_
      · rintro X D ⟨h1, h2⟩ hlo hX
        refine ⟨?_, h2.grown (grownBy_putObj' X D _) (by have := (Array.getElem?_eq_some_iff.1 hX).1; omega) (fun r e => by have := Option.some.inj e; omega)⟩
        refine h1.kept (grownBy_putObj' X D _) ?_
        rcases h1.2 with ⟨rfl, _⟩ | ⟨g', cap, cur, rfl, _, hgb, _⟩
        · exact .inl rfl
        · refine .inr fun e => ?_
          have : g' = D := by simpa [Value.ownBlock] using e
          subst this
          rw [hgb] at hX
          cases hX
      · rintro X ⟨h1, h2⟩
        refine ⟨_, results_tmp rfl _ _ _, ⟨v, rfl, ?_⟩, h2⟩
        refine ⟨h1.1, ?_⟩
        rcases h1.2 with h0 | ⟨g', cap, cur, e, hbg, hrest⟩
        · exact .inl h0
        · exact .inr ⟨g', cap, cur, e, by omega, hrest⟩
      · exact ⟨by rw [← sidesL_two, ← HS.out]; exact Hst.out.own, Hst.out.below⟩
end Go.Proofs.YtmagppkclnebjaaGreatDoor
