/- Texts of this seat, joined: The changes in their order: Change.compare as a sort asks it, slices.SortFunc at the changes, lineup.sorted · lineup.mapped at the changes, with the closures of Swap and Split; slices.IndexFunc with Split's · lineup.Swap: teams and changes with both sides exchanged · list (law) with its capacity · The reference: Split · lineup.Split: the teams behind all changes before a play, and the other changes. -/
import Derived.Test.YtmagppkclnebjaaGreatDoorQs
import Derived.Test.YtmagppkclnebjaaGreatDoorA17
import Derived.Test.YtmagppkclnebjaaGreatDoorB6
import Derived.Test.YtmagppkclnebjaaGreatDoorQp
import Derived.Laws.CopyOwn
import Derived.Laws.OwnMore
import Derived.Test.YtmagppkclnebjaaGreatDoorD0
import Derived.Test.YtmagppkclnebjaaGreatDoorH4
import Derived.Test.YtmagppkclnebjaaGreatDoorH9
set_option linter.unusedVariables false
set_option linter.unusedSimpArgs false
set_option linter.unusedSimpArgs false
set_option linter.unusedVariables false
namespace Go.Proofs.YtmagppkclnebjaaGreatDoor
open Go.RowKit Go.Sort
open L

instance : Inhabited Chg := ⟨noChg⟩
def encChg (c : Chg) : List Value := [.int .i64 c.side, .int .i64 c.play, .int .i64 c.slot, .string c.name, .int .i64 c.pos]
set_option maxHeartbeats 1000000 in
theorem compareC_grow (c d : Chg) (w : World) :
 Calls Tryz.prog 119 #[.agg c.val, .agg d.val] w fun x w' => x = .returned (.int .i64 (cmpC c d)) ∧ ∃ q os', w' = grow (w.drewN q) os' := by
 have hk1 := (Bk.new w 142 c.val).alloc (.cells d.val 142)
 have hk2 := Bk.new (w.alloc (.cells c.val 142)) 142 d.val
 rw [World.size_alloc] at hk2
 have x0 : ((w.alloc (.cells c.val 142)).alloc (.cells d.val 142)).cell? ⟨w.heap.size, 0, none⟩ = some (.int .i64 c.side) := by rw [hk1.cell]; rfl
 have x1 : ((w.alloc (.cells c.val 142)).alloc (.cells d.val 142)).cell? ⟨w.heap.size, 1, none⟩ = some (.int .i64 c.play) := by rw [hk1.cell]; rfl
 have x2 : ((w.alloc (.cells c.val 142)).alloc (.cells d.val 142)).cell? ⟨w.heap.size, 2, none⟩ = some (.int .i64 c.slot) := by rw [hk1.cell]; rfl
 have y0 : ((w.alloc (.cells c.val 142)).alloc (.cells d.val 142)).cell? ⟨w.heap.size + 1, 0, none⟩ = some (.int .i64 d.side) := by rw [hk2.cell]; rfl
 have y1 : ((w.alloc (.cells c.val 142)).alloc (.cells d.val 142)).cell? ⟨w.heap.size + 1, 1, none⟩ = some (.int .i64 d.play) := by rw [hk2.cell]; rfl
 have y2 : ((w.alloc (.cells c.val 142)).alloc (.cells d.val 142)).cell? ⟨w.heap.size + 1, 2, none⟩ = some (.int .i64 d.slot) := by rw [hk2.cell]; rfl
 have HB : Hid (∃ os, (w.alloc (.cells c.val 142)).alloc (.cells d.val 142) = grow w os) := by
  refine ⟨_, by rw [alloc_eq_grow, alloc_eq_grow, grow_grow]⟩
 clear hk1 hk2
 generalize hv : c.val = V at *
 generalize hu : d.val = U at *
 clear hv hu
 go_enter Tryz.func119, Tryz.ntmps119
 go_wp2
 generalize (w.alloc (.cells V 142)).alloc (.cells U 142) = W0 at *
 generalize hx : w.heap.size = bx at x0 x1 x2 y0 y1 y2 ⊢
 clear hx
 go_region_held3 (fun W => W.cell? ⟨bx, 0, none⟩ = some (.int .i64 c.side) ∧ W.cell? ⟨bx, 1, none⟩ = some (.int .i64 c.play) ∧ W.cell? ⟨bx, 2, none⟩ = some (.int .i64 c.slot) ∧ W.cell? ⟨bx + 1, 0, none⟩ = some (.int .i64 d.side) ∧ W.cell? ⟨bx + 1, 1, none⟩ = some (.int .i64 d.play) ∧ W.cell? ⟨bx + 1, 2, none⟩ = some (.int .i64 d.slot))
  (go_keep)
  (first
   | (go_at_call 103; refine (compare_any _ _ _).mono ?_; rintro e w' ⟨rfl, rfl⟩)
   | (go_at_call 141; refine (or3 _ _ _ _ _ _ _ (by exact heap_alloc_new _ _)).mono ?_; rintro e w' ⟨rfl, rfl⟩))
 go_wp2
 go_ret
 refine ⟨rfl, ?_⟩
 obtain ⟨os, e⟩ := HB.out
 rw [e]
 exact ⟨1, _, by rw [alloc_eq_grow, grow_grow]; rfl⟩
theorem cmpLays119 (blk off size : Nat) (w : World) : CmpLays Tryz.prog 119 #[] encChg 5 cmpC blk off size w := fun _ _ _ _ x y => compareC_grow x y _
theorem ltOf_cmpC (x y : Chg) : ltOf cmpC x y = after y x := by
 unfold ltOf
 rw [Bool.eq_iff_iff, after_iff]
 simp only [decide_eq_true_eq, cmpC, orI, cmpI]
 by_cases h1 : x.play < y.play
 ·
  simp [h1]; try omega
 ·
  by_cases h2 : x.play > y.play
  ·
   simp [h1, h2]; try omega
  ·
   have e1 : x.play = y.play := by omega
   by_cases h3 : x.side < y.side
   ·
    simp [h1, h2, h3]; try omega
   ·
    by_cases h4 : x.side > y.side
    ·
     simp [h1, h2, h3, h4]; try omega
    ·
     have e2 : x.side = y.side := by omega
     by_cases h5 : x.slot < y.slot
     ·
      simp [h1, h2, h3, h4, h5]; try omega
     ·
      by_cases h6 : x.slot > y.slot
      ·
       simp [h1, h2, h3, h4, h5, h6]; try omega
      ·
       simp [h1, h2, h3, h4, h5, h6]; try omega
theorem swoChg : SWO (ltOf cmpC) := by
 refine ⟨fun x => ?_, fun x y z h1 h2 => ?_, fun x y z h1 h2 => ?_⟩
 ·
  rw [ltOf_cmpC]; exact after_irrefl x
 ·
  rw [ltOf_cmpC] at *; exact after_trans h2 h1
 ·
  rw [ltOf_cmpC] at *
  have n1 : ¬ after y x = true := by rw [h1]; simp
  have n2 : ¬ after z y = true := by rw [h2]; simp
  have n3 : ¬ after z x = true := by
   rw [after_iff] at *
   omega
  simpa using n3
theorem holdsChg {w : World} {base g n c : Nat} {S : List Chg} (hn : S.length = n) (h : w.ownsRow base 142 5 (.slice (some ⟨g, 0, none⟩) n c) n (flatC S)) : HoldsK encChg 5 w g 0 S.toArray := by
 intro j hj
 rw [size_flatK] at hj
 have hj' : j < n * 5 := by simpa [hn] using hj
 refine ⟨?_, h.frozenAt _⟩
 rw [Nat.zero_add, h.cellAt _ hj', get_flatK _ _ _ _ hj]
 have h1 := flatC_at S (j / 5) (j % 5) (by omega) (by omega)
 rw [show j / 5 * 5 + j % 5 = j by omega] at h1
 rw [h1]
 have h2 : S.toArray[j / 5]! = S.getD (j / 5) noChg := by
  have : j / 5 < S.length := by omega
  simp [List.getD, List.getElem?_eq_getElem this, this]
 rw [h2]
 have h6 : j % 5 = 0 ∨ j % 5 = 1 ∨ j % 5 = 2 ∨ j % 5 = 3 ∨ j % 5 = 4 := by omega
 rcases h6 with e | e | e | e | e <;> rw [e] <;> rfl

set_option maxHeartbeats 2000000 in
theorem sortChg_any (base g c n : Nat) (S : List Chg) (w : World) (hn : S.length = n) (h12 : n ≤ 12) (how : w.ownsRow base 142 5 (.slice (some ⟨g, 0, none⟩) n c) n (flatC S)) :
 Calls Tryz.prog 140 #[.slice (some ⟨g, 0, none⟩) n c, .func (.func 119) #[] #[]] w fun x w' =>
  x = .returned (.tuple #[]) ∧ w.grownBy w' (some g) ∧ ∃ S' : List Chg, S'.Perm S ∧ S'.Pairwise (fun a b => after a b = false) ∧ RdC w' (some ⟨g, 0, none⟩) S' := by
 have hH := holdsChg hn how
 have hsz : S.toArray.size = n := by simp [hn]
 have hlt := (how.lt g rfl).2
 have hcon := AnyQ.slices_SortFunc_small_sorted Tryz.sortChg 5 Tryz.isAgg142 Tryz.sizeOf142 encChg (fun _ => rfl) (fun x v hv => by simp [encChg] at hv; rcases hv with rfl | rfl | rfl | rfl | rfl <;> rfl) cmpC 119 #[] swoChg g 0 c S.toArray w
  (enters_of Tryz.func119 (by kernel_rfl) rfl) (cmpLays119 g 0 S.toArray.size w) hH hlt (by omega) (fun n W h => hlen12 n W h)
 rw [hsz] at hcon
 refine Calls.mono hcon ?_
 rintro x w' ⟨rfl, d', m, os, ⟨hs, _, hp⟩, hso, rfl⟩
 have hs' : d'.size = n := by rw [hs, hsz]
 have hH2 : HoldsK encChg 5 (sortWorldK encChg 5 w g 0 m d' os) g 0 d' := by
  unfold sortWorldK
  refine holdsK_grow _ _ _ _ _ _ _ (by simpa [putRowK, putRow, mapBlock, ahead] using hlt) (holdsK_putRowK _ _ _ _ _ S.toArray d' (holdsK_ahead _ _ _ _ _ _ _ hH) hs)
 refine ⟨rfl, ?_, d'.toList, ?_, ?_, ?_⟩
 ·
  unfold sortWorldK
  refine ⟨rfl, rfl, rfl, by simp [grow, putRowK, putRow, mapBlock, ahead], fun i hi hne => ?_⟩
  have hig : i ≠ g := fun e => hne (by rw [e])
  show (w.heap.modify g _ ++ os)[i]? = w.heap[i]?
  rw [Array.getElem?_append_left (by rw [Array.size_modify]; exact hi), Array.getElem?_modify, if_neg (Ne.symm hig)]
 ·
  have e1 : d'.extract 0 n = d' := by rw [← hs']; exact Array.extract_size
  have e2 : S.toArray.extract 0 n = S.toArray := by rw [← hsz]; exact Array.extract_size
  rw [e1, e2] at hp
  simpa using hp
 ·
  rw [List.pairwise_iff_getElem]
  intro i j hi hj hij
  have h1 := hso i j (by omega) hij (by simpa [hs'] using hj)
  rw [ltOf_cmpC] at h1
  have hi' : i < d'.size := by simpa using hi
  have hj' : j < d'.size := by simpa using hj
  rw [getElem!_pos d' j hj', getElem!_pos d' i hi'] at h1
  simpa using h1
 ·
  intro k hk
  refine ⟨g, 0, rfl, fun j hj => ?_⟩
  have hk' : k < d'.size := by simpa using hk
  rw [(hH2.cell hk' hj).1]
  have : d'.toList.getD k noChg = d'[k]! := by
   rw [getElem!_pos d' k hk']
   simp [List.getD, hk']
  show _ = (d'.toList.getD k noChg).val[j]?
  rw [this]
  have h6 : j = 0 ∨ j = 1 ∨ j = 2 ∨ j = 3 ∨ j = 4 := by omega
  rcases h6 with rfl | rfl | rfl | rfl | rfl <;> rfl

/-- copy of n elements of k cells each, onto the head of a row of n -/
theorem run_copy_rowK {P : Program} (w : World) (dT sT ty elem : TypeId) (g n k dCap : Nat) (a : Addr) (sCap : Nat) (cur : Array Value) (t : TypeId) (cs : List Value)
 (hu : P.underlying dT = some (.slice elem)) (hs : (P.info? elem).map (·.size) = some k)
 (hg : w.heap[g]? = some (.cells cur t (0, 0))) (hn : cs.length = n * k)
 (hsrc : ∀ j v, cs[j]? = some v → w.cell? (a.add j) = some v) (hfit : cs.length ≤ cur.size) (h1 : ∀ v ∈ cs, v.oneCell' = true) :
 (Builtin.copy_ #[dT, sT] ty #[.slice (some ⟨g, 0, none⟩) n dCap, .slice (some a) n sCap]).run P w =
  .ok (goInt n) (w.setRow g (cs ++ cur.toList.drop cs.length).toArray) := by
 have hl := run_loadCells_list (P := P) w a cs hsrc
 have hst := run_storeCells_at P g 0 t cs 0 cur w hg (by simpa using hfit) h1
 simp only [Nat.add_zero, Nat.zero_add, List.take_zero, List.nil_append] at hst
 cases hq : P.info? elem with
 | none => simp [hq] at hs
 | some i =>
  have hi : i.size = k := by simpa [hq] using hs
  have e : Nat.min n n = n := Nat.min_self n
  simp [Builtin.copy_, run_underlying hu, Builtin.lenOf, Builtin.firstCells, sizeOf, typeInfo, hq, hi, e, ← hn, hl, hst]
theorem wpList_copy_rowK {P : Program} {w : World} {ops : Array Oper} {rest : List Oper} {o : Oper} {a : Act} {Q : Exit → Act → World → Prop} (hgd : o.guard = none) (d s : Operand) (dT sT : TypeId)
 (ho : o.op = .call { callee := .builtin .copy, args := #[d, s], argTypes := #[dT, sT] }) (elem : TypeId) (hu : P.underlying dT = some (.slice elem)) (k : Nat) (hsz : (P.info? elem).map (·.size) = some k)
 (g n dCap : Nat) (ad : Addr) (sCap : Nat) (hd : a.eval d = .slice (some ⟨g, 0, none⟩) n dCap) (hs : a.eval s = .slice (some ad) n sCap)
 (cur : Array Value) (t : TypeId) (hg : w.heap[g]? = some (.cells cur t (0, 0))) (cs : List Value) (hn : cs.length = n * k)
 (hsrc : ∀ j v, cs[j]? = some v → w.cell? (ad.add j) = some v) (hfit : cs.length ≤ cur.size) (h1 : ∀ v ∈ cs, v.oneCell' = true)
 (h : wpList P ops Q rest (a.put o.dst (goInt n)) (w.setRow g (cs ++ cur.toList.drop cs.length).toArray)) : wpList P ops Q (o :: rest) a w := by
 refine wpList_plain hgd fun K hK => ?_
 have hrun := run_copy_rowK (P := P) w dT sT o.type elem g n k dCap ad sCap cur t cs hu hsz hg hn hsrc hfit h1
 unfold Oper.wp
 simp [execOp, ho, resolve, invoke, builtin, hd, hs, hrun, Result.andThen]
 exact hK _ _ h
theorem size142D : (Tryz.prog.info? 142).map (·.size) = some 5 := by kernel_rfl
theorem info142X : (Tryz.prog.info? 142).map (fun i => (i.zero, i.size, i.bytes)) = some (some (.agg #[.int .i64 0, .int .i64 0, .int .i64 0, .string { data := #[] }, .int .i64 0]), 5, 48) := by kernel_rfl
theorem rdc_cells {w : World} {b off : Nat} {l : List Chg} (h : RdC w (some ⟨b, off, none⟩) l) (j : Nat) (v : Value) (hv : (flatC l)[j]? = some v) : w.cell? ((⟨b, off, none⟩ : Addr).add j) = some v := by
 have hj : j < l.length * 5 := by rw [← flatC_len]; exact (List.getElem?_eq_some_iff.1 hv).1
 obtain ⟨b2, off2, e, hc⟩ := h (j / 5) (by omega)
 injection e with e
 injection e with e1 e2
 subst e1; subst e2
 have h1 := hc (j % 5) (by omega)
 have h2 := flatC_at l (j / 5) (j % 5) (by omega) (by omega)
 rw [show j / 5 * 5 + j % 5 = j by omega] at h2
 rw [h2] at hv
 rw [Addr.add_mid, show off + j = off + j / 5 * 5 + j % 5 by omega, h1]
 exact hv
theorem flatC_one5 (l : List Chg) : ∀ v ∈ flatC l, v.oneCell' = true := by
 intro v hv
 obtain ⟨c, _, h⟩ := List.mem_flatMap.1 hv
 simp [L.Chg.val] at h
 rcases h with rfl | rfl | rfl | rfl | rfl <;> rfl

set_option maxHeartbeats 2000000 in
set_option maxRecDepth 100000 in
theorem sorted_any (l : List Chg) (b off n c : Nat) (hn : l.length = n) (h12 : n ≤ 12) (w : World) (hl : RdC w (some ⟨b, off, none⟩) l) :
 Calls Tryz.prog 113 #[.slice (some ⟨b, off, none⟩) n c] w fun x w' => (∃ S : List Chg, x = .returned (.slice (some ⟨w.heap.size, 0, none⟩) n n) ∧ S.Perm l ∧ S.Pairwise (fun a b => after a b = false) ∧ RdC w' (some ⟨w.heap.size, 0, none⟩) S) ∧ Below w.heap.size w w' := by
 obtain ⟨i0, hi, hz0, hz1, hz2⟩ := info_parts info142X
 have Hn := Lib.hid hn; have Hl := Lib.hid hl
 clear hn hl
 go_enter Tryz.func113, Tryz.ntmps113
 go_upto_region 2 with (at_make; refine wpList_make_full _ rfl _ _ 56 rfl w.heap.size 142 i0 (.agg #[.int .i64 0, .int .i64 0, .int .i64 0, .string { data := #[] }, .int .i64 0]) 5 Tryz.underlying56 hi hz0 hz1 .i64 .i64 _ _ n rfl rfl (by first | rfl | omega) (by first | rfl | omega) (by rw [hz2]; omega) (by unfold maxLen; omega) (Nat.le_refl _) ?_; intro w1 hown hgrow)
 obtain ⟨cur, hcur, hcs⟩ : ∃ cur, w1.heap[w.heap.size]? = some (.cells cur 142 (0, 0)) ∧ cur.size = n * 5 := by
  rcases hown.2 with ⟨h', _⟩ | ⟨g', cap', cur, h', _, hg, _, _, hcz, _⟩
  ·
   simp at h'
  ·
   simp only [Value.slice.injEq, Option.some.injEq, Addr.mk.injEq, and_true, true_and] at h'
   obtain ⟨rfl, rfl⟩ := h'
   exact ⟨cur, hg, hcz⟩
 have hb1 : Below w.heap.size w w1 := ⟨hgrow.os, hgrow.tape, hgrow.output, hgrow.size, fun i hi => hgrow.block i hi (by simp)⟩
 have hlen : (flatC l).length = n * 5 := by rw [flatC_len, Hn.out]
 have F : Hid (Below w.heap.size w (w1.setRow w.heap.size (flatC l ++ cur.toList.drop (flatC l).length).toArray) ∧ (w1.setRow w.heap.size (flatC l ++ cur.toList.drop (flatC l).length).toArray).ownsRow w.heap.size 142 5 (.slice (some ⟨w.heap.size, 0, none⟩) n n) n (flatC l)) := by
  refine ⟨below_setRow hb1 (Nat.le_refl _) _, hlen, .inr ⟨w.heap.size, n, _, rfl, Nat.le_refl _, setRow_heap w1 w.heap.size cur _ 142 _ hcur, Nat.le_refl _, by unfold maxLen; omega, ?_, ?_⟩⟩
  ·
   simp; rw [hlen]; omega
  ·
   simp; rw [List.take_left' hlen]
 have Hs : Hid (∀ j v, (flatC l)[j]? = some v → w1.cell? ((⟨b, off, none⟩ : Addr).add j) = some v) := fun j v hv => rdc_cells (Hl.out.below hb1) j v hv
 have Hlen := Lib.hid hlen; have Hfit : Hid ((flatC l).length ≤ cur.size) := by show _ ≤ _; omega
 have Hone := Lib.hid (flatC_one5 l); have Hcur := Lib.hid hcur
 have HS : Hid (∀ W, W.ownsRow w.heap.size 142 5 (.slice (some ⟨w.heap.size, 0, none⟩) n n) n (flatC l) → Calls Tryz.prog 140 #[.slice (some ⟨w.heap.size, 0, none⟩) n n, .func (.func 119) #[] #[]] W fun x w' =>
  x = .returned (.tuple #[]) ∧ W.grownBy w' (some w.heap.size) ∧ ∃ S' : List Chg, S'.Perm l ∧ S'.Pairwise (fun a b => after a b = false) ∧ RdC w' (some ⟨w.heap.size, 0, none⟩) S') := fun W h => sortChg_any w.heap.size w.heap.size n n l W Hn.out h12 h
 clear hown hgrow hb1 hlen hcur hcs
 generalize flatC l = fc at F Hs Hlen Hfit Hone HS
 have hsz := size142D
 go_upto_region 3 with (refine wpList_copy_rowK rfl _ _ _ _ rfl 142 Tryz.underlying56 5 hsz w.heap.size n _ ⟨b, off, none⟩ _ rfl rfl cur 142 Hcur.out fc Hlen.out Hs.out Hfit.out Hone.out ?_)
 generalize (w1.setRow w.heap.size (fc ++ cur.toList.drop fc.length).toArray) = W2 at F ⊢
 go_wp2_with (go_at_call 140; refine (HS.out _ F.out.2).mono ?_; rintro e w3 ⟨rfl, hg3, S', hp, hs, hr⟩)
 go_ret
 exact ⟨⟨S', rfl, hp, hs, hr⟩, F.out.1.grown hg3 (Nat.le_trans (Nat.le_refl _) (Nat.le_of_lt (F.out.2.lt _ rfl).2)) (fun r e => by have := Option.some.inj e; omega)⟩
end Go.Proofs.YtmagppkclnebjaaGreatDoor

set_option linter.unusedSimpArgs false
set_option linter.unusedVariables false
namespace Go.Proofs.YtmagppkclnebjaaGreatDoor
open Go.RowKit
open L

set_option maxHeartbeats 1000000 in
theorem swapClo (sd pl sl po : Int) (nm : Str) (hs : sd = 0 ∨ sd = 1) (w : World) :
 Calls Tryz.prog 112 #[.agg #[.int .i64 sd, .int .i64 pl, .int .i64 sl, .string nm, .int .i64 po]] w fun x w' => x = .returned (.agg #[.int .i64 (1 - sd), .int .i64 pl, .int .i64 sl, .string nm, .int .i64 po]) ∧ Below w.heap.size w w' := by
 have u1 : IntKind.i64.wrap (1 - sd) = 1 - sd := IntWalk.i64_in _ (by omega)
 clear hs
 have hb := Bk.new (w.alloc (.cells #[.int .i64 (1 - sd), .int .i64 pl, .int .i64 sl, .string nm, .int .i64 po] 142)) 142 #[.int .i64 (1 - sd), .int .i64 pl, .int .i64 sl, .string nm, .int .i64 po]
 rw [World.size_alloc] at hb
 have Hb := Lib.hid hb; clear hb
 go_enter Tryz.func112, Tryz.ntmps112
 go_wp2
 refine bodyPost_ret (results_cell_row rfl _ _ (w.heap.size + 1) 142 #[.int .i64 (1 - sd), .int .i64 pl, .int .i64 sl, .string nm, .int .i64 po] (0, 0) _ rfl Hb.out Tryz.underlying142 rfl size142D) rfl ?_
 exact ⟨rfl, bt_alloc (bt_new w _) _⟩
set_option maxHeartbeats 1000000 in
theorem splitClo (sd pl sl po p : Int) (nm : Str) (pb : Nat) (h0 : 0 ≤ pl ∧ pl ≤ 256) (h1 : 0 ≤ p ∧ p ≤ 256) (w : World) (hp : w.cell? ⟨pb, 0, none⟩ = some (.int .i64 p)) :
 Calls Tryz.prog 117 #[.agg #[.int .i64 sd, .int .i64 pl, .int .i64 sl, .string nm, .int .i64 po], .pointer (some ⟨pb, 0, none⟩)] w fun x w' => x = .returned (.agg #[.int .i64 sd, .int .i64 (pl - p), .int .i64 sl, .string nm, .int .i64 po]) ∧ Below w.heap.size w w' := by
 have u1 : IntKind.i64.wrap (pl - p) = pl - p := IntWalk.i64_in _ (by omega)
 clear h0 h1
 have hlt : pb < w.heap.size := World.block_lt_of_cell? w ⟨pb, 0, none⟩ hp
 have hp1 : ((w.alloc (.cells #[.int .i64 sd, .int .i64 pl, .int .i64 sl, .string nm, .int .i64 po] 142)).alloc (.cells #[.int .i64 0, .int .i64 0, .int .i64 0, .string { data := #[] }, .int .i64 0] 142)).cell? ⟨pb, 0, none⟩ = some (.int .i64 p) := ((bt_alloc (bt_new w _) _).cell (p := ⟨pb, 0, none⟩) hlt).trans hp
 have hb := Bk.new (w.alloc (.cells #[.int .i64 sd, .int .i64 (pl - p), .int .i64 sl, .string nm, .int .i64 po] 142)) 142 #[.int .i64 sd, .int .i64 (pl - p), .int .i64 sl, .string nm, .int .i64 po]
 rw [World.size_alloc] at hb
 have Hb := Lib.hid hb; clear hb
 go_enter Tryz.func117, Tryz.ntmps117
 go_wp2
 refine bodyPost_ret (results_cell_row rfl _ _ (w.heap.size + 1) 142 #[.int .i64 sd, .int .i64 (pl - p), .int .i64 sl, .string nm, .int .i64 po] (0, 0) _ rfl Hb.out Tryz.underlying142 rfl size142D) rfl ?_
 exact ⟨rfl, bt_alloc (bt_new w _) _⟩
theorem fromClo (sd pl sl po p : Int) (nm : Str) (pb : Nat) (w : World) (hp : w.cell? ⟨pb, 0, none⟩ = some (.int .i64 p)) :
 Calls Tryz.prog 116 #[.agg #[.int .i64 sd, .int .i64 pl, .int .i64 sl, .string nm, .int .i64 po], .pointer (some ⟨pb, 0, none⟩)] w fun x w' => x = .returned (.bool (decide (p ≤ pl))) ∧ Below w.heap.size w w' := by
 have hlt : pb < w.heap.size := World.block_lt_of_cell? w ⟨pb, 0, none⟩ hp
 have hp1 : (w.alloc (.cells #[.int .i64 sd, .int .i64 pl, .int .i64 sl, .string nm, .int .i64 po] 142)).cell? ⟨pb, 0, none⟩ = some (.int .i64 p) := ((bt_new w _).cell (p := ⟨pb, 0, none⟩) hlt).trans hp
 go_enter Tryz.func116, Tryz.ntmps116
 go_wp2
 go_ret
 exact ⟨ret_bool (by first | rfl | simp [ge_iff_le]), bt_new w _⟩

set_option maxHeartbeats 4000000 in
set_option maxRecDepth 100000 in
theorem mappedSwap_any (l : List Chg) (A : Option Addr) (n c : Nat) (hn : l.length = n) (hle : n ≤ 1000) (g : Chg → Chg) (w : World) (hl : RdC w A l)
 (Hf : ∀ W d, d ∈ l → Below w.heap.size w W → Calls Tryz.prog 112 #[.agg #[.int .i64 d.side, .int .i64 d.play, .int .i64 d.slot, .string d.name, .int .i64 d.pos]] W fun x w' => x = .returned (.agg #[.int .i64 (g d).side, .int .i64 (g d).play, .int .i64 (g d).slot, .string (g d).name, .int .i64 (g d).pos]) ∧ Below W.heap.size W w') :
 Calls Tryz.prog 114 #[.slice A n c, .func (.func 112) #[] #[]] w fun x w' => (∃ v, x = .returned v ∧ SlK 5 w' v n (flatC (l.map g)) ∧ ∀ r, v.ownBlock = some r → w.heap.size ≤ r) ∧ Below w.heap.size w w' := by
 obtain ⟨i0, hi, hz0, hz1, hz2⟩ := info_parts info142X
 have Hn := Lib.hid hn; have Hl := Lib.hid hl; have Hf' := Lib.hid Hf
 clear hn hl Hf
 go_enter Tryz.func114, Tryz.ntmps114
 go_upto_region 3 with fail
 go_loopw [5, 10] (fun v i wr => ∃ k : Nat, k ≤ n ∧ i = .int .i64 k ∧ Below w.heap.size w wr ∧ wr.ownsRow w.heap.size 142 5 v k (flatC ((l.take k).map g))) (fun _ i _ => n - (intOf i).toNat)
 case atStart => exact ⟨0, by omega, rfl, Below.refl _ _, World.ownsRow_nil _ _ _ _⟩
 case round =>
  obtain ⟨k, hk, rfl, hb, hown⟩ := hrel
  have F1 := Lib.hid (And.intro hb hown)
  clear hb hown
  by_cases hkn : k < n
  ·
   have q0 : (0 : Int) ≤ (k : Int) := by omega
   have q1 : (k : Int) < (n : Int) := by omega
   have hkl : k < l.length := by rw [Hn.out]; exact hkn
   obtain ⟨b, off, rfl, hc⟩ := Hl.out k hkl
   have hb0 : b < w.heap.size := World.block_lt_of_cell? w ⟨b, off + k * 5 + 0, none⟩ (u := .int .i64 (l.getD k noChg).side) (by rw [hc 0 (by omega)]; rfl)
   have hcell : ∀ j, j < 5 → wr.cell? ⟨b, off + k * 5 + j, none⟩ = (l.getD k noChg).val[j]? := fun j hj => by
    rw [F1.out.1.cell (p := ⟨b, off + k * 5 + j, none⟩) hb0]; exact hc j hj
   have htk : l.take (k + 1) = l.take k ++ [l.getD k noChg] := by
    rw [List.take_succ_eq_append_getElem hkl]; simp [List.getD, List.getElem?_eq_getElem hkl]
   have Hfd := Lib.hid (fun W => Hf'.out W (l.getD k noChg) (by simp [List.getD, List.getElem?_eq_getElem hkl]))
   generalize l.getD k noChg = d at hcell htk Hfd
   have Htk : Hid (flatC ((l.take (k + 1)).map g) = flatC ((l.take k).map g) ++ (g d).val.toList) := by
    show _ = _
    rw [htk, List.map_append, flatC_append]; simp [flatC]
   clear htk hc hkl
   have c0 : wr.cell? ⟨b, off + k * 5, none⟩ = some (.int .i64 d.side) := hcell 0 (by omega)
   have c1 : wr.cell? ⟨b, off + k * 5 + 1, none⟩ = some (.int .i64 d.play) := hcell 1 (by omega)
   have c2 : wr.cell? ⟨b, off + k * 5 + 2, none⟩ = some (.int .i64 d.slot) := hcell 2 (by omega)
   have c3 : wr.cell? ⟨b, off + k * 5 + 3, none⟩ = some (.string d.name) := hcell 3 (by omega)
   have c4 : wr.cell? ⟨b, off + k * 5 + 4, none⟩ = some (.int .i64 d.pos) := hcell 4 (by omega)
   clear hcell
   go_upto_region 5 with fail
   have F2 : Hid (Below w.heap.size w (wr.alloc (.cells #[.int .i64 d.side, .int .i64 d.play, .int .i64 d.slot, .string d.name, .int .i64 d.pos] 142)) ∧ (wr.alloc (.cells #[.int .i64 d.side, .int .i64 d.play, .int .i64 d.slot, .string d.name, .int .i64 d.pos] 142)).ownsRow w.heap.size 142 5 u5 k (flatC ((l.take k).map g)) ∧ Bk (wr.alloc (.cells #[.int .i64 d.side, .int .i64 d.play, .int .i64 d.slot, .string d.name, .int .i64 d.pos] 142)) wr.heap.size 142 #[.int .i64 d.side, .int .i64 d.play, .int .i64 d.slot, .string d.name, .int .i64 d.pos]) := ⟨bt_alloc F1.out.1 _, F1.out.2.alloc _, Bk.new wr 142 _⟩
   clear F1 c0 c1 c2 c3 c4
   generalize (wr.alloc (.cells #[.int .i64 d.side, .int .i64 d.play, .int .i64 d.slot, .string d.name, .int .i64 d.pos] 142)) = W1 at F2 ⊢
   generalize wr.heap.size = gc at F2 ⊢
   have hbD := F2.out.2.2
   have x0 : W1.cell? ⟨gc, 0, none⟩ = some (.int .i64 d.side) := by rw [hbD.cell]; rfl
   have x1 : W1.cell? ⟨gc, 1, none⟩ = some (.int .i64 d.play) := by rw [hbD.cell]; rfl
   have x2 : W1.cell? ⟨gc, 2, none⟩ = some (.int .i64 d.slot) := by rw [hbD.cell]; rfl
   have x3 : W1.cell? ⟨gc, 3, none⟩ = some (.string d.name) := by rw [hbD.cell]; rfl
   have x4 : W1.cell? ⟨gc, 4, none⟩ = some (.int .i64 d.pos) := by rw [hbD.cell]; rfl
   obtain ⟨e, he⟩ : ∃ e, e = g d := ⟨_, rfl⟩
   rw [← he] at Hfd Htk
   clear he hbD
   go_wp2_with (first
    | (go_at_call 112; refine (Hfd.out _ F2.out.1).mono ?_; rintro y w3 ⟨rfl, hb3⟩; have F3 := Lib.hid (And.intro (bt_trans F2.out.1 hb3) (own_below F2.out.2.1 hb3)); have hcs := new_cells w3 #[.int .i64 e.side, .int .i64 e.play, .int .i64 e.slot, .string e.name, .int .i64 e.pos] 142; have hsz := F3.out.1.size)
    | (at_builtin; refine wpList_append_own _ rfl _ _ 56 rfl w.heap.size 142 i0 (.agg #[.int .i64 0, .int .i64 0, .int .i64 0, .string { data := #[] }, .int .i64 0]) 5 48 Tryz.underlying56 hi hz0 hz1 hz2 rfl (by decide) _ _ _ rfl (F3.out.2.alloc _) ⟨w3.heap.size, 0, none⟩ 1 1 (#[.int .i64 e.side, .int .i64 e.play, .int .i64 e.slot, .string e.name, .int .i64 e.pos] : Array Value).toList rfl rfl hcs (by simp [Value.oneCell']) (by unfold maxLen; omega) (by omega) (by simp; omega) ?_; intro v' w5 hown' hgrow hnil))
   go_roundw
   case rel =>
    refine ⟨k + 1, by omega, by go_num, (bt_alloc F3.out.1 _).grown hgrow (by simp; omega) (fun r e => by have := (F3.out.2.lt r e).1; omega), ?_⟩
    rw [Htk.out]
    exact hown'
   case measure => simp [intOf]; omega
  ·
   obtain rfl : k = n := by omega
   have e0 : l.take k = l := List.take_of_length_le (by rw [Hn.out]; exact Nat.le_refl _)
   rw [e0] at F1
   go_wp2
   go_ret
   exact ⟨⟨_, rfl, SlK.of_own F1.out.2, fun r e => (F1.out.2.lt r e).1⟩, F1.out.1⟩

set_option maxHeartbeats 4000000 in
set_option maxRecDepth 100000 in
theorem mappedSplit_any (l : List Chg) (A : Option Addr) (n c : Nat) (hn : l.length = n) (hle : n ≤ 1000) (g : Chg → Chg) (pb : Nat) (w : World) (hl : RdC w A l)
 (Hf : ∀ W d, d ∈ l → Below w.heap.size w W → Calls Tryz.prog 117 #[.agg #[.int .i64 d.side, .int .i64 d.play, .int .i64 d.slot, .string d.name, .int .i64 d.pos], .pointer (some ⟨pb, 0, none⟩)] W fun x w' => x = .returned (.agg #[.int .i64 (g d).side, .int .i64 (g d).play, .int .i64 (g d).slot, .string (g d).name, .int .i64 (g d).pos]) ∧ Below W.heap.size W w') :
 Calls Tryz.prog 114 #[.slice A n c, .func (.func 117) #[] #[.pointer (some ⟨pb, 0, none⟩)]] w fun x w' => (∃ v, x = .returned v ∧ SlK 5 w' v n (flatC (l.map g)) ∧ ∀ r, v.ownBlock = some r → w.heap.size ≤ r) ∧ Below w.heap.size w w' := by
 obtain ⟨i0, hi, hz0, hz1, hz2⟩ := info_parts info142X
 have Hn := Lib.hid hn; have Hl := Lib.hid hl; have Hf' := Lib.hid Hf
 clear hn hl Hf
 go_enter Tryz.func114, Tryz.ntmps114
 go_upto_region 3 with fail
 go_loopw [5, 10] (fun v i wr => ∃ k : Nat, k ≤ n ∧ i = .int .i64 k ∧ Below w.heap.size w wr ∧ wr.ownsRow w.heap.size 142 5 v k (flatC ((l.take k).map g))) (fun _ i _ => n - (intOf i).toNat)
 case atStart => exact ⟨0, by omega, rfl, Below.refl _ _, World.ownsRow_nil _ _ _ _⟩
 case round =>
  obtain ⟨k, hk, rfl, hb, hown⟩ := hrel
  have F1 := Lib.hid (And.intro hb hown)
  clear hb hown
  by_cases hkn : k < n
  ·
   have q0 : (0 : Int) ≤ (k : Int) := by omega
   have q1 : (k : Int) < (n : Int) := by omega
   have hkl : k < l.length := by rw [Hn.out]; exact hkn
   obtain ⟨b, off, rfl, hc⟩ := Hl.out k hkl
   have hb0 : b < w.heap.size := World.block_lt_of_cell? w ⟨b, off + k * 5 + 0, none⟩ (u := .int .i64 (l.getD k noChg).side) (by rw [hc 0 (by omega)]; rfl)
   have hcell : ∀ j, j < 5 → wr.cell? ⟨b, off + k * 5 + j, none⟩ = (l.getD k noChg).val[j]? := fun j hj => by
    rw [F1.out.1.cell (p := ⟨b, off + k * 5 + j, none⟩) hb0]; exact hc j hj
   have htk : l.take (k + 1) = l.take k ++ [l.getD k noChg] := by
    rw [List.take_succ_eq_append_getElem hkl]; simp [List.getD, List.getElem?_eq_getElem hkl]
   have Hfd := Lib.hid (fun W => Hf'.out W (l.getD k noChg) (by simp [List.getD, List.getElem?_eq_getElem hkl]))
   generalize l.getD k noChg = d at hcell htk Hfd
   have Htk : Hid (flatC ((l.take (k + 1)).map g) = flatC ((l.take k).map g) ++ (g d).val.toList) := by
    show _ = _
    rw [htk, List.map_append, flatC_append]; simp [flatC]
   clear htk hc hkl
   have c0 : wr.cell? ⟨b, off + k * 5, none⟩ = some (.int .i64 d.side) := hcell 0 (by omega)
   have c1 : wr.cell? ⟨b, off + k * 5 + 1, none⟩ = some (.int .i64 d.play) := hcell 1 (by omega)
   have c2 : wr.cell? ⟨b, off + k * 5 + 2, none⟩ = some (.int .i64 d.slot) := hcell 2 (by omega)
   have c3 : wr.cell? ⟨b, off + k * 5 + 3, none⟩ = some (.string d.name) := hcell 3 (by omega)
   have c4 : wr.cell? ⟨b, off + k * 5 + 4, none⟩ = some (.int .i64 d.pos) := hcell 4 (by omega)
   clear hcell
   go_upto_region 5 with fail
   have F2 : Hid (Below w.heap.size w (wr.alloc (.cells #[.int .i64 d.side, .int .i64 d.play, .int .i64 d.slot, .string d.name, .int .i64 d.pos] 142)) ∧ (wr.alloc (.cells #[.int .i64 d.side, .int .i64 d.play, .int .i64 d.slot, .string d.name, .int .i64 d.pos] 142)).ownsRow w.heap.size 142 5 u5 k (flatC ((l.take k).map g)) ∧ Bk (wr.alloc (.cells #[.int .i64 d.side, .int .i64 d.play, .int .i64 d.slot, .string d.name, .int .i64 d.pos] 142)) wr.heap.size 142 #[.int .i64 d.side, .int .i64 d.play, .int .i64 d.slot, .string d.name, .int .i64 d.pos]) := ⟨bt_alloc F1.out.1 _, F1.out.2.alloc _, Bk.new wr 142 _⟩
   clear F1 c0 c1 c2 c3 c4
   generalize (wr.alloc (.cells #[.int .i64 d.side, .int .i64 d.play, .int .i64 d.slot, .string d.name, .int .i64 d.pos] 142)) = W1 at F2 ⊢
   generalize wr.heap.size = gc at F2 ⊢
   have hbD := F2.out.2.2
   have x0 : W1.cell? ⟨gc, 0, none⟩ = some (.int .i64 d.side) := by rw [hbD.cell]; rfl
   have x1 : W1.cell? ⟨gc, 1, none⟩ = some (.int .i64 d.play) := by rw [hbD.cell]; rfl
   have x2 : W1.cell? ⟨gc, 2, none⟩ = some (.int .i64 d.slot) := by rw [hbD.cell]; rfl
   have x3 : W1.cell? ⟨gc, 3, none⟩ = some (.string d.name) := by rw [hbD.cell]; rfl
   have x4 : W1.cell? ⟨gc, 4, none⟩ = some (.int .i64 d.pos) := by rw [hbD.cell]; rfl
   obtain ⟨e, he⟩ : ∃ e, e = g d := ⟨_, rfl⟩
   rw [← he] at Hfd Htk
   clear he hbD
   go_wp2_with (first
    | (go_at_call 117; refine (Hfd.out _ F2.out.1).mono ?_; rintro y w3 ⟨rfl, hb3⟩; have F3 := Lib.hid (And.intro (bt_trans F2.out.1 hb3) (own_below F2.out.2.1 hb3)); have hcs := new_cells w3 #[.int .i64 e.side, .int .i64 e.play, .int .i64 e.slot, .string e.name, .int .i64 e.pos] 142; have hsz := F3.out.1.size)
    | (at_builtin; refine wpList_append_own _ rfl _ _ 56 rfl w.heap.size 142 i0 (.agg #[.int .i64 0, .int .i64 0, .int .i64 0, .string { data := #[] }, .int .i64 0]) 5 48 Tryz.underlying56 hi hz0 hz1 hz2 rfl (by decide) _ _ _ rfl (F3.out.2.alloc _) ⟨w3.heap.size, 0, none⟩ 1 1 (#[.int .i64 e.side, .int .i64 e.play, .int .i64 e.slot, .string e.name, .int .i64 e.pos] : Array Value).toList rfl rfl hcs (by simp [Value.oneCell']) (by unfold maxLen; omega) (by omega) (by simp; omega) ?_; intro v' w5 hown' hgrow hnil))
   go_roundw
   case rel =>
    refine ⟨k + 1, by omega, by go_num, (bt_alloc F3.out.1 _).grown hgrow (by simp; omega) (fun r e => by have := (F3.out.2.lt r e).1; omega), ?_⟩
    rw [Htk.out]
    exact hown'
   case measure => simp [intOf]; omega
  ·
   obtain rfl : k = n := by omega
   have e0 : l.take k = l := List.take_of_length_le (by rw [Hn.out]; exact Nat.le_refl _)
   rw [e0] at F1
   go_wp2
   go_ret
   exact ⟨⟨_, rfl, SlK.of_own F1.out.2, fun r e => (F1.out.2.lt r e).1⟩, F1.out.1⟩

set_option maxHeartbeats 4000000 in
set_option maxRecDepth 100000 in
theorem indexFrom_any (l : List Chg) (A : Option Addr) (n c : Nat) (hn : l.length = n) (hle : n ≤ 1000) (p : Int) (pb : Nat) (w : World) (hl : RdC w A l) (hp : w.cell? ⟨pb, 0, none⟩ = some (.int .i64 p)) :
 Calls Tryz.prog 115 #[.slice A n c, .func (.func 116) #[] #[.pointer (some ⟨pb, 0, none⟩)]] w fun x w' => x = .returned (.int .i64 (idxF (fun d : Chg => decide (p ≤ d.play)) l)) ∧ Below w.heap.size w w' := by
 have hlt : pb < w.heap.size := World.block_lt_of_cell? w ⟨pb, 0, none⟩ hp
 have Hp : Hid (∀ W, Below w.heap.size w W → W.cell? ⟨pb, 0, none⟩ = some (.int .i64 p)) := fun W h => (h.cell (p := ⟨pb, 0, none⟩) hlt).trans hp
 have Hn := Lib.hid hn; have Hl := Lib.hid hl
 clear hn hl hp hlt
 go_enter Tryz.func115, Tryz.ntmps115
 go_upto_region 2 with fail
 go_loopw [8] (fun i wr => ∃ k : Nat, k ≤ n ∧ i = .int .i64 k ∧ Below w.heap.size w wr ∧ ∀ j, j < k → decide (p ≤ (l.getD j noChg).play) = false) (fun i _ => n - (intOf i).toNat)
 case atStart => exact ⟨0, by omega, rfl, Below.refl _ _, fun j hj => by omega⟩
 case round =>
  obtain ⟨k, hk, rfl, hb, hj⟩ := hrel
  have Hb := Lib.hid hb; have Hj := Lib.hid hj
  clear hb hj
  by_cases hkn : k < n
  ·
   have q0 : (0 : Int) ≤ (k : Int) := by omega
   have q1 : (k : Int) < (n : Int) := by omega
   have hkl : k < l.length := by rw [Hn.out]; exact hkn
   obtain ⟨b, off, rfl, hc⟩ := Hl.out k hkl
   have hb0 : b < w.heap.size := World.block_lt_of_cell? w ⟨b, off + k * 5 + 0, none⟩ (u := .int .i64 (l.getD k noChg).side) (by rw [hc 0 (by omega)]; rfl)
   have hcell : ∀ j, j < 5 → wr.cell? ⟨b, off + k * 5 + j, none⟩ = (l.getD k noChg).val[j]? := fun j hj => by
    rw [Hb.out.cell (p := ⟨b, off + k * 5 + j, none⟩) hb0]; exact hc j hj
   have hd : ∃ d, d = l.getD k noChg := ⟨_, rfl⟩
   obtain ⟨d, hd⟩ := hd
   rw [← hd] at hcell
   have Hd := Lib.hid hd
   clear hd hc
   have c0 : wr.cell? ⟨b, off + k * 5, none⟩ = some (.int .i64 d.side) := hcell 0 (by omega)
   have c1 : wr.cell? ⟨b, off + k * 5 + 1, none⟩ = some (.int .i64 d.play) := hcell 1 (by omega)
   have c2 : wr.cell? ⟨b, off + k * 5 + 2, none⟩ = some (.int .i64 d.slot) := hcell 2 (by omega)
   have c3 : wr.cell? ⟨b, off + k * 5 + 3, none⟩ = some (.string d.name) := hcell 3 (by omega)
   have c4 : wr.cell? ⟨b, off + k * 5 + 4, none⟩ = some (.int .i64 d.pos) := hcell 4 (by omega)
   clear hcell
   have H116 := Lib.hid (fromClo d.side d.play d.slot d.pos p d.name pb wr (Hp.out _ Hb.out))
   cases hq : decide (p ≤ d.play)
   ·
    rw [hq] at H116
    have Hq := Lib.hid hq; clear hq hkl
    go_wp2_with (go_at_call 116; refine H116.out.mono ?_; rintro y w3 ⟨rfl, hb3⟩)
    go_roundw
    case rel =>
     refine ⟨k + 1, by omega, by go_num, bt_trans Hb.out hb3, fun j hj => ?_⟩
     rcases Nat.lt_succ_iff_lt_or_eq.1 hj with h1 | rfl
     ·
      exact Hj.out j h1
     ·
      rw [← Hd.out]; exact Hq.out
    case measure => simp [intOf]; omega
   ·
    rw [hq] at H116
    have Hr : Hid (idxF (fun d : Chg => decide (p ≤ d.play)) l = (k : Int)) := idxF_hit _ l noChg k hkl Hj.out (by rw [← Hd.out]; exact hq)
    clear hq hkl
    go_wp2_with (go_at_call 116; refine H116.out.mono ?_; rintro y w3 ⟨rfl, hb3⟩)
    go_ret
    exact ⟨ret_int Hr.out.symm, bt_trans Hb.out hb3⟩
  ·
   obtain rfl : k = n := by omega
   have Hr : Hid (idxF (fun d : Chg => decide (p ≤ d.play)) l = -1) := idxF_miss _ l noChg (fun j hj => Hj.out j (by rw [← Hn.out]; exact hj))
   go_wp2
   go_ret
   exact ⟨ret_int Hr.out.symm, Hb.out⟩
end Go.Proofs.YtmagppkclnebjaaGreatDoor

set_option linter.unusedSimpArgs false
set_option linter.unusedVariables false
namespace Go.Proofs.YtmagppkclnebjaaGreatDoor
open Go.RowKit
open L

def L.swapP (t : Tms) (l : List Chg) : Tms × List Chg × Int := if checkChanges t l ≠ 0 then (Tms.zero, [], checkChanges t l) else (t.swap, swapR l, 0)
theorem results_cell2t {P : Program} {fn : Func} {p u1 u2 : Tmp} {ty : TypeId} (h : fn.results = #[.cell p ty, .tmp u1, .tmp u2]) (tmps : Array Value) (w : World) (g : Nat) (t : TypeId) (cs : Array Value) (d : TypeDesc)
 (hp : tmps.getD p undef = .pointer (some ⟨g, 0, none⟩)) (hg : Bk w g t cs)
 (hu : P.underlying ty = some d) (hd : (match d with | .struct _ | .array _ _ => true | _ => false) = true) (hi : (P.info? ty).map (·.size) = some cs.size) :
 (results fn tmps).run P w = .ok (.tuple #[.agg cs, tmps.getD u1 undef, tmps.getD u2 undef]) w := by
 have hp' : tmps[p]?.getD undef = .pointer (some ⟨g, 0, none⟩) := by simpa using hp
 simp [results, h, hp', asAddr, run_loadVar_row w g t ty cs (0, 0) d hg hu hd hi]
theorem exec_build2 {o : Oper} {a : Act} {w : World} (t : TypeId) (parts : Array (Nat × Operand)) (ho : o.op = .build t parts) (cells : Array Value) (vs : List (Nat × Value))
 (hv : (parts.map fun (i, x) => (i, a.eval x)).toList = vs) (hb : Tryz.prog.built t vs = some cells) : (execOp a.eval o).run Tryz.prog w = .ok (.value (.agg cells)) w := by
 have hc : Tryz.prog.built t (parts.map fun (i, x) => (i, a.eval x)).toList = some cells := by rw [hv, hb]
 unfold execOp
 simp only [ho, Sem.run_bind, run_build w t _ cells hc, Result.andThen_ok]
 rfl
theorem run_copy_zero {P : Program} (w : World) (dT sT ty elem : TypeId) (k dCap sCap : Nat) (dp sp : Option Addr) (hu : P.underlying dT = some (.slice elem)) (hs : (P.info? elem).map (·.size) = some k) :
 (Builtin.copy_ #[dT, sT] ty #[.slice dp 0 dCap, .slice sp 0 sCap]).run P w = .ok (goInt 0) w := by
 cases hq : P.info? elem with
 | none => simp [hq] at hs
 | some i =>
  have hi : i.size = k := by simpa [hq] using hs
  cases sp <;> cases dp <;> simp [Builtin.copy_, run_underlying hu, Builtin.lenOf, Builtin.firstCells, sizeOf, typeInfo, hq, hi, storeCells, loadCells, loadCellsFrom]
theorem wpList_copy_zero {P : Program} {w : World} {ops : Array Oper} {rest : List Oper} {o : Oper} {a : Act} {Q : Exit → Act → World → Prop} (hgd : o.guard = none) (d s : Operand) (dT sT : TypeId)
 (ho : o.op = .call { callee := .builtin .copy, args := #[d, s], argTypes := #[dT, sT] }) (elem : TypeId) (hu : P.underlying dT = some (.slice elem)) (k : Nat) (hsz : (P.info? elem).map (·.size) = some k)
 (dp sp : Option Addr) (dCap sCap : Nat) (hd : a.eval d = .slice dp 0 dCap) (hs : a.eval s = .slice sp 0 sCap)
 (h : wpList P ops Q rest (a.put o.dst (goInt 0)) w) : wpList P ops Q (o :: rest) a w := by
 refine wpList_plain hgd fun K hK => ?_
 have hrun := run_copy_zero (P := P) w dT sT o.type elem k dCap sCap dp sp hu hsz
 unfold Oper.wp
 simp [execOp, ho, resolve, invoke, builtin, hd, hs, hrun, Result.andThen]
 exact hK _ _ h

set_option maxHeartbeats 2000000 in
set_option maxRecDepth 100000 in
theorem sorted_none (A : Option Addr) (c : Nat) (w : World) :
 Calls Tryz.prog 113 #[.slice A 0 c] w fun x w' => x = .returned (.slice (some ⟨w.heap.size, 0, none⟩) 0 0) ∧ Below w.heap.size w w' := by
 obtain ⟨i0, hi, hz0, hz1, hz2⟩ := info_parts info142X
 have hsz := size142D
 have HS : Hid (∀ W, W.ownsRow w.heap.size 142 5 (.slice (some ⟨w.heap.size, 0, none⟩) 0 0) 0 (flatC []) → Calls Tryz.prog 140 #[.slice (some ⟨w.heap.size, 0, none⟩) 0 0, .func (.func 119) #[] #[]] W fun x w' =>
  x = .returned (.tuple #[]) ∧ W.grownBy w' (some w.heap.size) ∧ ∃ S' : List Chg, S'.Perm [] ∧ S'.Pairwise (fun a b => after a b = false) ∧ RdC w' (some ⟨w.heap.size, 0, none⟩) S') := fun W h => sortChg_any w.heap.size w.heap.size 0 0 [] W rfl (by omega) h
 go_enter Tryz.func113, Tryz.ntmps113
 go_upto_region 2 with (at_make; refine wpList_make_full _ rfl _ _ 56 rfl w.heap.size 142 i0 (.agg #[.int .i64 0, .int .i64 0, .int .i64 0, .string { data := #[] }, .int .i64 0]) 5 Tryz.underlying56 hi hz0 hz1 .i64 .i64 _ _ 0 rfl rfl (by first | rfl | omega | simp) (by first | rfl | omega | simp) (by rw [hz2]; omega) (by unfold maxLen; omega) (Nat.le_refl _) ?_; intro w1 hown hgrow)
 have hb1 : Below w.heap.size w w1 := ⟨hgrow.os, hgrow.tape, hgrow.output, hgrow.size, fun i hi => hgrow.block i hi (by simp)⟩
 have F : Hid (Below w.heap.size w w1 ∧ w1.ownsRow w.heap.size 142 5 (.slice (some ⟨w.heap.size, 0, none⟩) 0 0) 0 (flatC [])) := by
  refine ⟨hb1, ?_⟩
  have e : (flatC [] : List Value) = [] := rfl
  rw [e]
  have h2 := hown.1
  rw [Nat.zero_mul] at h2
  rw [List.eq_nil_of_length_eq_zero h2] at hown
  exact hown
 clear hown hgrow hb1
 go_upto_region 3 with (refine wpList_copy_zero rfl _ _ _ _ rfl 142 Tryz.underlying56 5 hsz _ _ _ _ rfl rfl ?_)
 go_wp2_with (go_at_call 140; refine (HS.out _ F.out.2).mono ?_; rintro e w3 ⟨rfl, hg3, S', hp, hs, hr⟩)
 go_ret
 exact ⟨rfl, F.out.1.grown hg3 (Nat.le_of_lt (F.out.2.lt _ rfl).2) (fun r e => by have := Option.some.inj e; omega)⟩
theorem sortedA_any (l : List Chg) (A : Option Addr) (n c : Nat) (hn : l.length = n) (h12 : n ≤ 12) (w : World) (hl : RdC w A l) :
 Calls Tryz.prog 113 #[.slice A n c] w fun x w' => (∃ S : List Chg, x = .returned (.slice (some ⟨w.heap.size, 0, none⟩) n n) ∧ S.Perm l ∧ S.Pairwise (fun a b => after a b = false) ∧ RdC w' (some ⟨w.heap.size, 0, none⟩) S) ∧ Below w.heap.size w w' := by
 by_cases h0 : n = 0
 ·
  subst h0
  obtain rfl := List.eq_nil_of_length_eq_zero hn
  exact (sorted_none A c w).mono fun x w' ⟨e, hb⟩ => ⟨⟨[], e, .refl _, List.Pairwise.nil, fun k hk => absurd hk (by simp)⟩, hb⟩
 ·
  obtain ⟨b, off, rfl, _⟩ := hl 0 (by omega)
  exact sorted_any l b off n c hn h12 w hl

set_option maxHeartbeats 4000000 in
set_option maxRecDepth 100000 in
theorem swap_any (t : Tms) (ht : t.ok) (T : Array Value) (hT : T = t.cells.toArray) (l : List Chg) (A : Option Addr) (n c : Nat) (hn : l.length = n) (w : World) (hl : RdC w A l) (h12 : checkChanges t l = 0 → n ≤ 12) :
 Calls Tryz.prog 57 #[.agg T, .slice A n c] w fun x w' => (∃ B d, x = .returned (.tuple #[.agg (swapP t l).1.cells.toArray, .slice B (swapP t l).2.1.length d, .int .i64 (swapP t l).2.2]) ∧ RdC w' B (swapP t l).2.1) ∧ Below w.heap.size w w' := by
 have F : Hid (Below w.heap.size w ((w.alloc (.cells T 54)).alloc (.cells #[.string { data := #[] }, .string { data := #[] }, .string { data := #[] }, .string { data := #[] }, .string { data := #[] }, .string { data := #[] }, .string { data := #[] }, .string { data := #[] }, .string { data := #[] }, .int .i64 0, .int .i64 0, .int .i64 0, .int .i64 0, .int .i64 0, .int .i64 0, .int .i64 0, .int .i64 0, .int .i64 0, .string { data := #[] }, .string { data := #[] }, .string { data := #[] }, .string { data := #[] }, .string { data := #[] }, .string { data := #[] }, .string { data := #[] }, .string { data := #[] }, .string { data := #[] }, .int .i64 0, .int .i64 0, .int .i64 0, .int .i64 0, .int .i64 0, .int .i64 0, .int .i64 0, .int .i64 0, .int .i64 0] 54)) ∧ Bk ((w.alloc (.cells T 54)).alloc (.cells #[.string { data := #[] }, .string { data := #[] }, .string { data := #[] }, .string { data := #[] }, .string { data := #[] }, .string { data := #[] }, .string { data := #[] }, .string { data := #[] }, .string { data := #[] }, .int .i64 0, .int .i64 0, .int .i64 0, .int .i64 0, .int .i64 0, .int .i64 0, .int .i64 0, .int .i64 0, .int .i64 0, .string { data := #[] }, .string { data := #[] }, .string { data := #[] }, .string { data := #[] }, .string { data := #[] }, .string { data := #[] }, .string { data := #[] }, .string { data := #[] }, .string { data := #[] }, .int .i64 0, .int .i64 0, .int .i64 0, .int .i64 0, .int .i64 0, .int .i64 0, .int .i64 0, .int .i64 0, .int .i64 0] 54)) w.heap.size 54 t.cells.toArray ∧
  Bk ((w.alloc (.cells T 54)).alloc (.cells #[.string { data := #[] }, .string { data := #[] }, .string { data := #[] }, .string { data := #[] }, .string { data := #[] }, .string { data := #[] }, .string { data := #[] }, .string { data := #[] }, .string { data := #[] }, .int .i64 0, .int .i64 0, .int .i64 0, .int .i64 0, .int .i64 0, .int .i64 0, .int .i64 0, .int .i64 0, .int .i64 0, .string { data := #[] }, .string { data := #[] }, .string { data := #[] }, .string { data := #[] }, .string { data := #[] }, .string { data := #[] }, .string { data := #[] }, .string { data := #[] }, .string { data := #[] }, .int .i64 0, .int .i64 0, .int .i64 0, .int .i64 0, .int .i64 0, .int .i64 0, .int .i64 0, .int .i64 0, .int .i64 0] 54)) (w.heap.size + 1) 54 #[.string { data := #[] }, .string { data := #[] }, .string { data := #[] }, .string { data := #[] }, .string { data := #[] }, .string { data := #[] }, .string { data := #[] }, .string { data := #[] }, .string { data := #[] }, .int .i64 0, .int .i64 0, .int .i64 0, .int .i64 0, .int .i64 0, .int .i64 0, .int .i64 0, .int .i64 0, .int .i64 0, .string { data := #[] }, .string { data := #[] }, .string { data := #[] }, .string { data := #[] }, .string { data := #[] }, .string { data := #[] }, .string { data := #[] }, .string { data := #[] }, .string { data := #[] }, .int .i64 0, .int .i64 0, .int .i64 0, .int .i64 0, .int .i64 0, .int .i64 0, .int .i64 0, .int .i64 0, .int .i64 0]) := by
  refine ⟨bt_alloc (bt_new w _) _, by rw [← hT]; exact (Bk.new w 54 T).alloc _, ?_⟩
  have := Bk.new (w.alloc (.cells T 54)) 54 #[.string { data := #[] }, .string { data := #[] }, .string { data := #[] }, .string { data := #[] }, .string { data := #[] }, .string { data := #[] }, .string { data := #[] }, .string { data := #[] }, .string { data := #[] }, .int .i64 0, .int .i64 0, .int .i64 0, .int .i64 0, .int .i64 0, .int .i64 0, .int .i64 0, .int .i64 0, .int .i64 0, .string { data := #[] }, .string { data := #[] }, .string { data := #[] }, .string { data := #[] }, .string { data := #[] }, .string { data := #[] }, .string { data := #[] }, .string { data := #[] }, .string { data := #[] }, .int .i64 0, .int .i64 0, .int .i64 0, .int .i64 0, .int .i64 0, .int .i64 0, .int .i64 0, .int .i64 0, .int .i64 0]
  rwa [World.size_alloc] at this
 have Ht := Lib.hid ht; have Hn := Lib.hid hn; have Hl := Lib.hid hl
 have Hi := Lib.hid (info54s t.cells.toArray.size (Tms.size36 t ht))
 have Hcc : Hid (∀ W, Below w.heap.size w W → Calls Tryz.prog 61 #[.agg t.cells.toArray, .slice A n c] W fun x w' => x = .returned (.int .i64 (checkChanges t l)) ∧ Below W.heap.size W w') := fun W hW =>
  checkChanges_pre t ht _ rfl l A n c hn W (hl.below hW)
 clear ht hn hl hT
 by_cases hE : checkChanges t l = 0
 ·
  have hz : (checkChanges t l != 0) = false := by simpa using hE
  have hn12 := h12 hE
  have hr : swapP t l = (t.swap, swapR l, 0) := by unfold swapP; rw [if_neg (by rw [hE]; simp)]
  have hside : ∀ d ∈ l, d.side = 0 ∨ d.side = 1 := fun d hd => (okS_all hE d hd).1
  have Hsort := Lib.hid (cc_sorted hE)
  have Hr := Lib.hid hr
  have hlen : (swapR l).length = n := by rw [(swapR_perm l).length_eq, List.length_map]; exact Hn.out
  have Hlen := Lib.hid hlen
  have hok2 : t.swap.ok := ⟨Ht.out.2, Ht.out.1⟩
  have Hb := Lib.hid (built54 t.swap hok2)
  have Hi0 : Hid ((Tryz.prog.info? 33).map (·.size) = some t.l0.cells.length) := by show _ = _; rw [LU.cells_len _ Ht.out.1]; kernel_rfl
  have Hi1 : Hid ((Tryz.prog.info? 33).map (·.size) = some t.l1.cells.length) := by show _ = _; rw [LU.cells_len _ Ht.out.2]; kernel_rfl
  have Hi2 := Lib.hid (info54s t.swap.cells.toArray.size (Tms.size36 t.swap hok2))
  have Hone := Lib.hid (Tms.oneCell t.swap)
  have Hs := Lib.hid (Tms.size36 t.swap hok2)
  have HR : Hid (∀ X, Bk X w.heap.size 54 t.cells.toArray → X.rangeAt w.heap.size 18 t.l1.cells ∧ X.rangeAt w.heap.size 0 t.l0.cells) := fun X h => ⟨tms_range1 Ht.out h, tms_range0 h⟩
  have Hmap : Hid (∀ W, Below w.heap.size w W → Calls Tryz.prog 114 #[.slice A n c, .func (.func 112) #[] #[]] W fun x w' => (∃ v, x = .returned v ∧ SlK 5 w' v n (flatC (l.map Chg.other))) ∧ Below W.heap.size W w') := fun W h =>
   (mappedSwap_any l A n c Hn.out (by omega) Chg.other W (Hl.out.below h) (fun W' d hd _ => swapClo d.side d.play d.slot d.pos d.name (hside d hd) W')).mono fun _ _ ⟨⟨v, e, hv, _⟩, hb⟩ => ⟨⟨v, e, hv⟩, hb⟩
  have Hsw : Hid (∀ S : List Chg, S.Perm (l.map Chg.other) → S.Pairwise (fun a b => after a b = false) → S = swapR l) := fun S h1 h2 => swap_eq Hsort.out h1 h2
  have Hml : Hid ((l.map Chg.other).length = n) := by show _ = _; rw [List.length_map]; exact Hn.out
  have Hcell : Hid (∀ X, Bk X (w.heap.size + 1) 54 #[.string { data := #[] }, .string { data := #[] }, .string { data := #[] }, .string { data := #[] }, .string { data := #[] }, .string { data := #[] }, .string { data := #[] }, .string { data := #[] }, .string { data := #[] }, .int .i64 0, .int .i64 0, .int .i64 0, .int .i64 0, .int .i64 0, .int .i64 0, .int .i64 0, .int .i64 0, .int .i64 0, .string { data := #[] }, .string { data := #[] }, .string { data := #[] }, .string { data := #[] }, .string { data := #[] }, .string { data := #[] }, .string { data := #[] }, .string { data := #[] }, .string { data := #[] }, .int .i64 0, .int .i64 0, .int .i64 0, .int .i64 0, .int .i64 0, .int .i64 0, .int .i64 0, .int .i64 0, .int .i64 0] → X.there (w.heap.size + 1) 0 t.swap.cells.toArray.size ∧ Bk (X.setCells (w.heap.size + 1) 0 t.swap.cells) (w.heap.size + 1) 54 t.swap.cells.toArray) := fun X h => ⟨h.there _ (by rw [Hs.out]; exact Nat.le_refl _), by simpa using h.fill t.swap.cells.toArray (by rw [Hs.out]; rfl)⟩
  have e0 : t.swap.l0 = t.l1 := rfl
  have e1 : t.swap.l1 = t.l0 := rfl
  rw [e0, e1] at Hb
  clear hE hside hr hok2 h12 hlen e0 e1
  go_enter Tryz.func57, Tryz.ntmps57
  go_upto_region 1 with fail
  generalize (w.alloc (.cells T 54)).alloc (.cells #[.string { data := #[] }, .string { data := #[] }, .string { data := #[] }, .string { data := #[] }, .string { data := #[] }, .string { data := #[] }, .string { data := #[] }, .string { data := #[] }, .string { data := #[] }, .int .i64 0, .int .i64 0, .int .i64 0, .int .i64 0, .int .i64 0, .int .i64 0, .int .i64 0, .int .i64 0, .int .i64 0, .string { data := #[] }, .string { data := #[] }, .string { data := #[] }, .string { data := #[] }, .string { data := #[] }, .string { data := #[] }, .string { data := #[] }, .string { data := #[] }, .string { data := #[] }, .int .i64 0, .int .i64 0, .int .i64 0, .int .i64 0, .int .i64 0, .int .i64 0, .int .i64 0, .int .i64 0, .int .i64 0] 54) = W0 at F ⊢
  go_upto_region 5 with (first
   | (refine wpList_load_row rfl 54 _ rfl w.heap.size rfl 54 t.cells.toArray (0, 0) _ F.out.2.1 Tryz.underlying54 rfl Hi.out ?_)
   | (go_at_call 61; refine (Hcc.out _ F.out.1).mono ?_; rintro e w1 ⟨rfl, hb1⟩))
  have F1 : Hid (Below w.heap.size w w1 ∧ Bk w1 w.heap.size 54 t.cells.toArray ∧ Bk w1 (w.heap.size + 1) 54 #[.string { data := #[] }, .string { data := #[] }, .string { data := #[] }, .string { data := #[] }, .string { data := #[] }, .string { data := #[] }, .string { data := #[] }, .string { data := #[] }, .string { data := #[] }, .int .i64 0, .int .i64 0, .int .i64 0, .int .i64 0, .int .i64 0, .int .i64 0, .int .i64 0, .int .i64 0, .int .i64 0, .string { data := #[] }, .string { data := #[] }, .string { data := #[] }, .string { data := #[] }, .string { data := #[] }, .string { data := #[] }, .string { data := #[] }, .string { data := #[] }, .string { data := #[] }, .int .i64 0, .int .i64 0, .int .i64 0, .int .i64 0, .int .i64 0, .int .i64 0, .int .i64 0, .int .i64 0, .int .i64 0]) :=
   ⟨bt_trans F.out.1 hb1, F.out.2.1.below hb1 F.out.2.1.lt, F.out.2.2.below hb1 F.out.2.2.lt⟩
  clear F hb1 hz Hcc
  have keepS : ∀ X Y, (Below w.heap.size w X ∧ Bk X w.heap.size 54 t.cells.toArray) → Below X.heap.size X Y → (Below w.heap.size w Y ∧ Bk Y w.heap.size 54 t.cells.toArray) := fun X Y h hb => ⟨bt_trans h.1 hb, h.2.below hb h.2.lt⟩
  have KS := Lib.hid keepS
  clear keepS
  have hS0 : Below w.heap.size w w1.drew ∧ Bk w1.drew w.heap.size 54 t.cells.toArray := KS.out _ _ ⟨F1.out.1, F1.out.2.1⟩ (bt_drew (Below.refl _ w1))
  have hZ0 := F1.out.2.2.drew
  have hfar : Hid (∀ X, (Below w.heap.size w X ∧ Bk X w.heap.size 54 t.cells.toArray) → (Below w.heap.size w (X.setCells (w.heap.size + 1) 0 t.swap.cells) ∧ Bk (X.setCells (w.heap.size + 1) 0 t.swap.cells) w.heap.size 54 t.cells.toArray)) := fun X h => ⟨below_sets (by omega) h.1 _ _, Bk.setsFar (by omega) _ _ h.2⟩
  have hfarC : Hid (∀ X (S : List Chg) (g : Nat), w.heap.size + 1 < g → RdC X (some ⟨g, 0, none⟩) S → RdC (X.setCells (w.heap.size + 1) 0 t.swap.cells) (some ⟨g, 0, none⟩) S) := fun X S g hg h => rdc_sets h (fun a e => by injection e with e; subst e; show g ≠ w.heap.size + 1; omega) _
  generalize t.l0.cells = c0 at HR Hi0 Hb
  generalize t.l1.cells = c1 at HR Hi1 Hb
  generalize hsw : t.swap.cells = sw at Hb Hi2 Hone Hs Hcell hfar hfarC
  have Hswc := Lib.hid hsw; clear hsw
  refine wp_region_held_drew (S := (fun X => Below w.heap.size w X ∧ Bk X w.heap.size 54 t.cells.toArray)) (by kernel_rfl) (hS0) (fun hHeld => ?_)
  refine tkE (i := 0) rfl ?_
  refine tkE (i := 2) rfl ?_
  refine tkE (i := 5) rfl ?_
  refine tkE (i := 6) rfl ?_
  refine ldE (i := 1) rfl rfl rfl (c1) (fun W h => (HR.out W h.2).1) Tryz.underlying33 rfl (Hi1.out) ?_
  refine ldE (i := 3) rfl rfl rfl (c0) (fun W h => (HR.out W h.2).2) Tryz.underlying33 rfl (Hi0.out) ?_
  refine tvE (i := 4) (v := .agg sw.toArray) rfl (fun W h => exec_build2 54 _ rfl _ [(0, .agg c1.toArray), (1, .agg c0.toArray)] (by simp only [List.map_toArray, List.map_cons, List.map_nil]; rfl) Hb.out) ?_
  refine rdE (i := 7) rfl (fun K hK => ?_)
  go_simp
  (go_at_call 114; refine (Hmap.out _ hHeld.1).mono ?_; rintro e w7 ⟨⟨v7, rfl, hv7⟩, hb7⟩; obtain ⟨hx7, A7, c7, rfl, hr7⟩ := hv7)
  go_wp2_with fail
  refine onE hK (KS.out _ _ hHeld hb7) (fun hHeld => ?_)
  clear hK K
  have hZ7 := hZ0.below hb7 hZ0.lt
  have hr7' : RdC w7 A7 (l.map Chg.other) := RdC.of_slk ⟨hx7, A7, c7, rfl, hr7⟩
  refine rdE (i := 8) rfl (fun K hK => ?_)
  go_simp
  (go_at_call 113; refine (sortedA_any (l.map Chg.other) A7 n c7 Hml.out hn12 w7 hr7').mono ?_; rintro e w8 ⟨⟨S8, rfl, hp8, hs8, hr8⟩, hb8⟩)
  go_wp2_with fail
  refine onE hK (KS.out _ _ hHeld hb8) (fun hHeld => ?_)
  clear hK K
  have hZ8 := hZ7.below hb8 hZ7.lt
  refine rdE (i := 9) rfl (fun K hK => ?_)
  refine step_store rfl 54 _ _ rfl (w.heap.size + 1) 0 sw.toArray rfl rfl (Hcell.out _ hZ8).1 Hi2.out Hone.out ?_
  have hF := hfar.out _ hHeld
  refine onE hK hF (fun hHeld => ?_)
  clear hK K
  refine tkE (i := 10) rfl ?_
  refine tkE (i := 11) rfl ?_
  refine wpAnyH_done (by kernel_rfl) ?_ _
  go_wp2_with fail
  refine bodyPost_ret (results_cell2t rfl _ _ (w.heap.size + 1) 54 sw.toArray _ rfl (Hcell.out _ hZ8).2 Tryz.underlying54 rfl Hi2.out) rfl ?_
  have hS8 := Hsw.out S8 hp8 hs8
  rw [hS8] at hr8
  rw [Hr.out]
  refine ⟨⟨some ⟨w7.heap.size, 0, none⟩, ⟨n, ?_⟩, hfarC.out _ _ _ hZ7.lt hr8⟩, hF.1⟩
  dsimp only
  rw [Hlen.out, Hswc.out]
  rfl
 ·
  have hz : (checkChanges t l != 0) = true := by simpa using hE
  have hr : swapP t l = (Tms.zero, [], checkChanges t l) := by unfold swapP; rw [if_pos hE]
  have Hr := Lib.hid hr
  have Hi2 := Lib.hid (info54s Tms.zero.cells.toArray.size (Tms.size36 _ Tms.zero_ok))
  have Hone := Lib.hid (Tms.oneCell Tms.zero)
  clear hE h12 hr
  go_enter Tryz.func57, Tryz.ntmps57
  go_upto_region 1 with fail
  generalize (w.alloc (.cells T 54)).alloc (.cells #[.string { data := #[] }, .string { data := #[] }, .string { data := #[] }, .string { data := #[] }, .string { data := #[] }, .string { data := #[] }, .string { data := #[] }, .string { data := #[] }, .string { data := #[] }, .int .i64 0, .int .i64 0, .int .i64 0, .int .i64 0, .int .i64 0, .int .i64 0, .int .i64 0, .int .i64 0, .int .i64 0, .string { data := #[] }, .string { data := #[] }, .string { data := #[] }, .string { data := #[] }, .string { data := #[] }, .string { data := #[] }, .string { data := #[] }, .string { data := #[] }, .string { data := #[] }, .int .i64 0, .int .i64 0, .int .i64 0, .int .i64 0, .int .i64 0, .int .i64 0, .int .i64 0, .int .i64 0, .int .i64 0] 54) = W0 at F ⊢
  have Hth : Hid (∀ W, Below W0.heap.size W0 W → W.there (w.heap.size + 1) 0 Tms.zero.cells.toArray.size) := fun W hW => (F.out.2.2.below hW F.out.2.2.lt).there _ (by rw [Tms.size36 _ Tms.zero_ok]; exact Nat.le_refl _)
  go_wp2_with (first
   | (refine wpList_load_row rfl 54 _ rfl w.heap.size rfl 54 t.cells.toArray (0, 0) _ F.out.2.1 Tryz.underlying54 rfl Hi.out ?_)
   | (go_at_call 61; refine (Hcc.out _ F.out.1).mono ?_; rintro e w1 ⟨rfl, hb1⟩)
   | (refine wpList_store_mid rfl 54 (.tmp 4) (.tmp 14) rfl (w.heap.size + 1) 0 Tms.zero.cells.toArray rfl rfl (Hth.out _ hb1) Hi2.out Hone.out ?_))
  refine bodyPost_ret (results_cell2t rfl _ _ (w.heap.size + 1) 54 Tms.zero.cells.toArray _ rfl ((F.out.2.2.below hb1 F.out.2.2.lt).fill Tms.zero.cells.toArray rfl) Tryz.underlying54 rfl Hi2.out) rfl ?_
  rw [Hr.out]
  exact ⟨by first | exact ⟨none, 0, rfl, fun k hk => absurd hk (by simp)⟩ | exact ⟨none, ⟨0, rfl⟩, fun k hk => absurd hk (by simp)⟩, below_sets (by omega) (bt_trans F.out.1 hb1) _ _⟩
end Go.Proofs.YtmagppkclnebjaaGreatDoor

set_option linter.unusedSimpArgs false
set_option linter.unusedVariables false
namespace Go.Proofs.YtmagppkclnebjaaGreatDoor
open Go.RowKit
open L

theorem own_cap {W : World} {base : Nat} {e : TypeId} {size n m c : Nat} {A : Option Addr} {xs : List Value} (h : W.ownsRow base e size (.slice A m c) n xs) : n = m ∧ m ≤ c ∧ (A = none → m = 0 ∧ c = 0) := by
 rcases h.2 with ⟨h', hn⟩ | ⟨g, cap, cur, h', _, _, hnc, _⟩
 ·
  simp only [Value.slice.injEq] at h'
  obtain ⟨rfl, rfl, rfl⟩ := h'
  exact ⟨hn, Nat.le_refl _, fun _ => ⟨rfl, rfl⟩⟩
 ·
  simp only [Value.slice.injEq] at h'
  obtain ⟨rfl, rfl, rfl⟩ := h'
  exact ⟨rfl, hnc, fun e => by cases e⟩
set_option maxHeartbeats 2000000 in
theorem listC_any (l : List Chg) (A : Option Addr) (n c : Nat) (hn : l.length = n) (hle : n ≤ 100000) (w : World) (hl : RdC w A l) :
 Calls Tryz.prog 24 #[.slice A n c] w fun x w' => (∃ B d, x = .returned (.slice B n d) ∧ n ≤ d ∧ RdC w' B l ∧ ∀ a, B = some a → w.heap.size ≤ a.block ∧ a.block < w'.heap.size) ∧ Below w.heap.size w w' := by
 obtain ⟨i0, hi, hz0, hz1, hz2⟩ := info_parts info142
 have Hn := Lib.hid hn; have Hl := Lib.hid hl
 clear hn hl
 go_enter Tryz.func24, Tryz.ntmps24
 go_wp2
 go_loopw [3, 7] (fun v i wr => ∃ k : Nat, k ≤ n ∧ i = .int .i64 k ∧ Below w.heap.size w wr ∧ wr.ownsRow w.heap.size 142 5 v k (flatC (l.take k))) (fun _ i _ => n - (intOf i).toNat)
 case atStart => exact ⟨0, by omega, rfl, Below.refl _ _, World.ownsRow_nil _ _ _ _⟩
 case round =>
  obtain ⟨k, hk, rfl, hb, hown⟩ := hrel
  have Hb := Lib.hid hb; have Hown := Lib.hid hown
  clear hb hown
  by_cases hkn : k < n
  ·
   obtain ⟨b, off, rfl, hc⟩ := Hl.out k (by rw [Hn.out]; exact hkn)
   have hb0 : b < w.heap.size := World.block_lt_of_cell? w ⟨b, off + k * 5 + 0, none⟩ (u := .int .i64 (l.getD k noChg).side) (by rw [hc 0 (by omega)]; rfl)
   have hcell : ∀ j, j < 5 → wr.cell? ⟨b, off + k * 5 + j, none⟩ = (l.getD k noChg).val[j]? := fun j hj => by
    rw [Hb.out.cell (p := ⟨b, off + k * 5 + j, none⟩) hb0]; exact hc j hj
   have htk : l.take (k + 1) = l.take k ++ [l.getD k noChg] := by
    have hkl : k < l.length := by rw [Hn.out]; exact hkn
    rw [List.take_succ_eq_append_getElem hkl]; simp [List.getD, List.getElem?_eq_getElem hkl]
   generalize l.getD k noChg = d at hcell htk
   have Htk := Lib.hid htk; clear htk hc
   have c0 : wr.cell? ⟨b, off + k * 5, none⟩ = some (.int .i64 d.side) := hcell 0 (by omega)
   have c1 : wr.cell? ⟨b, off + k * 5 + 1, none⟩ = some (.int .i64 d.play) := hcell 1 (by omega)
   have c2 : wr.cell? ⟨b, off + k * 5 + 2, none⟩ = some (.int .i64 d.slot) := hcell 2 (by omega)
   have c3 : wr.cell? ⟨b, off + k * 5 + 3, none⟩ = some (.string d.name) := hcell 3 (by omega)
   have c4 : wr.cell? ⟨b, off + k * 5 + 4, none⟩ = some (.int .i64 d.pos) := hcell 4 (by omega)
   clear hcell
   have hcs := new_cells wr #[.int .i64 d.side, .int .i64 d.play, .int .i64 d.slot, .string d.name, .int .i64 d.pos] 142
   have Hcs := Lib.hid hcs; clear hcs
   have hsz := Hb.out.size
   go_wp2_with (at_builtin; refine wpList_append_own _ rfl _ _ 56 rfl w.heap.size 142 i0 (.agg #[.int .i64 0, .int .i64 0, .int .i64 0, .string { data := #[] }, .int .i64 0]) 5 48 Tryz.underlying56 hi hz0 hz1 hz2 rfl (by decide) _ _ _ rfl (Hown.out.alloc _) ⟨wr.heap.size, 0, none⟩ 1 1 (#[.int .i64 d.side, .int .i64 d.play, .int .i64 d.slot, .string d.name, .int .i64 d.pos] : Array Value).toList rfl rfl Hcs.out (by simp [Value.oneCell']) (by unfold maxLen; omega) (by omega) (by simp; omega) ?_; intro v' w5 hown' hgrow hnil)
   go_roundw
   case rel =>
    refine ⟨k + 1, by omega, by go_num, (bt_alloc Hb.out _).grown hgrow (by simp; omega) (fun r e => (Hown.out.lt r e).1), ?_⟩
    rw [Htk.out, flatC_append, flatC_one]
    exact hown'
   case measure => simp [intOf]; omega
  ·
   obtain rfl : k = n := by omega
   have e0 : l.take k = l := List.take_of_length_le (by rw [Hn.out]; exact Nat.le_refl _)
   rw [e0] at Hown
   obtain ⟨h1, B, d, rfl, hr⟩ := SlK.of_own Hown.out
   have hkd := Lib.hid (own_cap Hown.out).2.1
   have hrd : Hid (RdC wr B l ∧ ∀ a, B = some a → w.heap.size ≤ a.block ∧ a.block < wr.heap.size) := ⟨RdC.of_slk ⟨h1, B, d, rfl, hr⟩, fun a e => by subst e; exact Hown.out.lt a.block rfl⟩
   clear h1 hr
   go_wp2
   go_ret
   exact ⟨⟨B, d, rfl, hkd.out, hrd.out⟩, Hb.out⟩
end Go.Proofs.YtmagppkclnebjaaGreatDoor

set_option linter.unusedSimpArgs false
set_option linter.unusedVariables false
namespace Go.Proofs.YtmagppkclnebjaaGreatDoor
open Go.RowKit
open L

theorem restR_cons (d : Chg) (r : List Chg) (p : Int) : restR (d :: r) p = (if p ≤ d.play then [d.less p] else []) ++ restR r p := by
 unfold restR
 by_cases h : p ≤ d.play
 ·
  rw [List.filter_cons_of_pos (by simpa using h), if_pos h]; rfl
 ·
  rw [List.filter_cons_of_neg (by simpa using h), if_neg h]; rfl
theorem results_cell1t {P : Program} {fn : Func} {p u1 : Tmp} {ty : TypeId} (h : fn.results = #[.cell p ty, .tmp u1]) (tmps : Array Value) (w : World) (g : Nat) (t : TypeId) (cs : Array Value) (d : TypeDesc)
 (hp : tmps.getD p undef = .pointer (some ⟨g, 0, none⟩)) (hg : Bk w g t cs)
 (hu : P.underlying ty = some d) (hd : (match d with | .struct _ | .array _ _ => true | _ => false) = true) (hi : (P.info? ty).map (·.size) = some cs.size) :
 (results fn tmps).run P w = .ok (.tuple #[.agg cs, tmps.getD u1 undef]) w := results_cell_row2 h tmps w g t cs d hp hg hu hd hi

set_option maxHeartbeats 4000000 in
set_option maxRecDepth 100000 in
theorem refSplit_any (t : Tms) (ht : t.ok) (T : Array Value) (hT : T = t.cells.toArray) (l : List Chg) (A : Option Addr) (n c : Nat) (hn : l.length = n) (hle : n ≤ 1000) (hok : ∀ d ∈ l, d.okS) (hpl : ∀ d ∈ l, 0 ≤ d.play ∧ d.play ≤ 256) (p : Int) (hp : 0 ≤ p ∧ p ≤ 256) (w : World) (hl : RdC w A l) :
 Calls Tryz.prog 60 #[.agg T, .slice A n c, .int .i64 p] w fun x w' => (∃ B d, x = .returned (.tuple #[.agg (atAll t l (p - 1)).cells.toArray, .slice B (restR l p).length d]) ∧ RdC w' B (restR l p)) ∧ Below w.heap.size w w' := by
 obtain ⟨i0, hi, hz0, hz1, hz2⟩ := info_parts info144
 have F : Hid (Below w.heap.size w ((w.alloc (.cells T 46)).alloc (.cells #[.string { data := #[] }, .string { data := #[] }, .string { data := #[] }, .string { data := #[] }, .string { data := #[] }, .string { data := #[] }, .string { data := #[] }, .string { data := #[] }, .string { data := #[] }, .int .i64 0, .int .i64 0, .int .i64 0, .int .i64 0, .int .i64 0, .int .i64 0, .int .i64 0, .int .i64 0, .int .i64 0, .string { data := #[] }, .string { data := #[] }, .string { data := #[] }, .string { data := #[] }, .string { data := #[] }, .string { data := #[] }, .string { data := #[] }, .string { data := #[] }, .string { data := #[] }, .int .i64 0, .int .i64 0, .int .i64 0, .int .i64 0, .int .i64 0, .int .i64 0, .int .i64 0, .int .i64 0, .int .i64 0] 46)) ∧ Bk ((w.alloc (.cells T 46)).alloc (.cells #[.string { data := #[] }, .string { data := #[] }, .string { data := #[] }, .string { data := #[] }, .string { data := #[] }, .string { data := #[] }, .string { data := #[] }, .string { data := #[] }, .string { data := #[] }, .int .i64 0, .int .i64 0, .int .i64 0, .int .i64 0, .int .i64 0, .int .i64 0, .int .i64 0, .int .i64 0, .int .i64 0, .string { data := #[] }, .string { data := #[] }, .string { data := #[] }, .string { data := #[] }, .string { data := #[] }, .string { data := #[] }, .string { data := #[] }, .string { data := #[] }, .string { data := #[] }, .int .i64 0, .int .i64 0, .int .i64 0, .int .i64 0, .int .i64 0, .int .i64 0, .int .i64 0, .int .i64 0, .int .i64 0] 46)) w.heap.size 46 t.cells.toArray ∧ Bk ((w.alloc (.cells T 46)).alloc (.cells #[.string { data := #[] }, .string { data := #[] }, .string { data := #[] }, .string { data := #[] }, .string { data := #[] }, .string { data := #[] }, .string { data := #[] }, .string { data := #[] }, .string { data := #[] }, .int .i64 0, .int .i64 0, .int .i64 0, .int .i64 0, .int .i64 0, .int .i64 0, .int .i64 0, .int .i64 0, .int .i64 0, .string { data := #[] }, .string { data := #[] }, .string { data := #[] }, .string { data := #[] }, .string { data := #[] }, .string { data := #[] }, .string { data := #[] }, .string { data := #[] }, .string { data := #[] }, .int .i64 0, .int .i64 0, .int .i64 0, .int .i64 0, .int .i64 0, .int .i64 0, .int .i64 0, .int .i64 0, .int .i64 0] 46)) (w.heap.size + 1) 46 #[.string { data := #[] }, .string { data := #[] }, .string { data := #[] }, .string { data := #[] }, .string { data := #[] }, .string { data := #[] }, .string { data := #[] }, .string { data := #[] }, .string { data := #[] }, .int .i64 0, .int .i64 0, .int .i64 0, .int .i64 0, .int .i64 0, .int .i64 0, .int .i64 0, .int .i64 0, .int .i64 0, .string { data := #[] }, .string { data := #[] }, .string { data := #[] }, .string { data := #[] }, .string { data := #[] }, .string { data := #[] }, .string { data := #[] }, .string { data := #[] }, .string { data := #[] }, .int .i64 0, .int .i64 0, .int .i64 0, .int .i64 0, .int .i64 0, .int .i64 0, .int .i64 0, .int .i64 0, .int .i64 0]) := by
  refine ⟨bt_alloc (bt_new w _) _, by rw [← hT]; exact (Bk.new w 46 T).alloc _, ?_⟩
  have := Bk.new (w.alloc (.cells T 46)) 46 #[.string { data := #[] }, .string { data := #[] }, .string { data := #[] }, .string { data := #[] }, .string { data := #[] }, .string { data := #[] }, .string { data := #[] }, .string { data := #[] }, .string { data := #[] }, .int .i64 0, .int .i64 0, .int .i64 0, .int .i64 0, .int .i64 0, .int .i64 0, .int .i64 0, .int .i64 0, .int .i64 0, .string { data := #[] }, .string { data := #[] }, .string { data := #[] }, .string { data := #[] }, .string { data := #[] }, .string { data := #[] }, .string { data := #[] }, .string { data := #[] }, .string { data := #[] }, .int .i64 0, .int .i64 0, .int .i64 0, .int .i64 0, .int .i64 0, .int .i64 0, .int .i64 0, .int .i64 0, .int .i64 0]
  rwa [World.size_alloc] at this
 have Ht := Lib.hid ht; have Hn := Lib.hid hn; have Hl := Lib.hid hl; have Hok := Lib.hid hok; have Hpl := Lib.hid hpl; have Hp := Lib.hid hp
 clear hT ht hn hl hok hpl hp
 go_enter Tryz.func60, Tryz.ntmps60
 go_upto_region 1 with fail
 generalize (w.alloc (.cells T 46)).alloc (.cells #[.string { data := #[] }, .string { data := #[] }, .string { data := #[] }, .string { data := #[] }, .string { data := #[] }, .string { data := #[] }, .string { data := #[] }, .string { data := #[] }, .string { data := #[] }, .int .i64 0, .int .i64 0, .int .i64 0, .int .i64 0, .int .i64 0, .int .i64 0, .int .i64 0, .int .i64 0, .int .i64 0, .string { data := #[] }, .string { data := #[] }, .string { data := #[] }, .string { data := #[] }, .string { data := #[] }, .string { data := #[] }, .string { data := #[] }, .string { data := #[] }, .string { data := #[] }, .int .i64 0, .int .i64 0, .int .i64 0, .int .i64 0, .int .i64 0, .int .i64 0, .int .i64 0, .int .i64 0, .int .i64 0] 46) = W0 at F ⊢
 go_upto_region 3 with fail
 go_loopw [8, 9] (fun v i wr => ∃ (k : Nat) (T1 : Tms) (out : List Chg), k ≤ n ∧ i = .int .i64 k ∧ T1.ok ∧ Below w.heap.size w wr ∧ Bk wr w.heap.size 46 T1.cells.toArray ∧ Bk wr (w.heap.size + 1) 46 #[.string { data := #[] }, .string { data := #[] }, .string { data := #[] }, .string { data := #[] }, .string { data := #[] }, .string { data := #[] }, .string { data := #[] }, .string { data := #[] }, .string { data := #[] }, .int .i64 0, .int .i64 0, .int .i64 0, .int .i64 0, .int .i64 0, .int .i64 0, .int .i64 0, .int .i64 0, .int .i64 0, .string { data := #[] }, .string { data := #[] }, .string { data := #[] }, .string { data := #[] }, .string { data := #[] }, .string { data := #[] }, .string { data := #[] }, .string { data := #[] }, .string { data := #[] }, .int .i64 0, .int .i64 0, .int .i64 0, .int .i64 0, .int .i64 0, .int .i64 0, .int .i64 0, .int .i64 0, .int .i64 0] ∧ wr.ownsRow (w.heap.size + 2) 144 5 v out.length (flatC out) ∧ atAll t l (p - 1) = atAll T1 (l.drop k) (p - 1) ∧ restR l p = out ++ restR (l.drop k) p ∧ out.length ≤ k) (fun _ i _ => n - (intOf i).toNat)
 case atStart => exact ⟨0, t, [], Nat.zero_le _, rfl, Ht.out, F.out.1, F.out.2.1, F.out.2.2, World.ownsRow_nil _ _ _ _, by simp, by simp, Nat.le_refl _⟩
 case round =>
  clear F
  obtain ⟨k, T1, out, hk, rfl, ht1, hb, hbk, hbz, hown, hat, hr, hol⟩ := hrel
  have F1 := Lib.hid (And.intro hb (And.intro hbk (And.intro hbz hown)))
  have Ht1 := Lib.hid ht1; have Hr := Lib.hid hr; have Hat := Lib.hid hat
  clear hb hbk hbz hown ht1 hr hat
  by_cases hkn : k < n
  ·
   obtain ⟨b, off, rfl, hc⟩ := Hl.out k (by rw [Hn.out]; exact hkn)
   have hb0 : b < w.heap.size := World.block_lt_of_cell? w ⟨b, off + k * 5 + 0, none⟩ (u := .int .i64 (l.getD k noChg).side) (by rw [hc 0 (by omega)]; rfl)
   have hdr := drop_at l k (by rw [Hn.out]; exact hkn)
   have hmem := getD_inC l k (by rw [Hn.out]; exact hkn)
   have hdo := Hok.out _ hmem
   have hdp := Hpl.out _ hmem
   replace hc : ∀ j, j < 5 → wr.cell? ⟨b, off + k * 5 + j, none⟩ = (l.getD k noChg).val[j]? := fun j hj => by
    rw [F1.out.1.cell (p := ⟨b, off + k * 5 + j, none⟩) hb0]; exact hc j hj
   generalize l.getD k noChg = d at hc hdr hdo hdp
   rw [hdr, restR_cons] at Hr
   rw [hdr, atAll_cons] at Hat
   have Hdo := Lib.hid hdo
   clear hdr hmem hdo
   have c0 : wr.cell? ⟨b, off + k * 5, none⟩ = some (.int .i64 d.side) := hc 0 (by omega)
   have c1 : wr.cell? ⟨b, off + k * 5 + 1, none⟩ = some (.int .i64 d.play) := hc 1 (by omega)
   have c2 : wr.cell? ⟨b, off + k * 5 + 2, none⟩ = some (.int .i64 d.slot) := hc 2 (by omega)
   have c3 : wr.cell? ⟨b, off + k * 5 + 3, none⟩ = some (.string d.name) := hc 3 (by omega)
   have c4 : wr.cell? ⟨b, off + k * 5 + 4, none⟩ = some (.int .i64 d.pos) := hc 4 (by omega)
   clear hc
   have q0 : (0 : Int) ≤ (k : Int) := by omega
   have q1 : (k : Int) < (n : Int) := by omega
   have hlt := F1.out.2.1.lt
   have hlz := F1.out.2.2.1.lt
   by_cases hlp : d.play < p
   ·
    have n1 : ¬ p ≤ d.play := by omega
    have n2 : d.play ≤ p - 1 := by omega
    rw [if_neg n1, List.nil_append] at Hr
    rw [if_pos n2] at Hat
    clear n1 n2 hdp
    go_upto_region 7 with fail
    have F2 : Hid (Below w.heap.size w (wr.alloc (.cells #[.int .i64 d.side, .int .i64 d.play, .int .i64 d.slot, .string d.name, .int .i64 d.pos] 144)) ∧ Bk (wr.alloc (.cells #[.int .i64 d.side, .int .i64 d.play, .int .i64 d.slot, .string d.name, .int .i64 d.pos] 144)) w.heap.size 46 T1.cells.toArray ∧ Bk (wr.alloc (.cells #[.int .i64 d.side, .int .i64 d.play, .int .i64 d.slot, .string d.name, .int .i64 d.pos] 144)) (w.heap.size + 1) 46 #[.string { data := #[] }, .string { data := #[] }, .string { data := #[] }, .string { data := #[] }, .string { data := #[] }, .string { data := #[] }, .string { data := #[] }, .string { data := #[] }, .string { data := #[] }, .int .i64 0, .int .i64 0, .int .i64 0, .int .i64 0, .int .i64 0, .int .i64 0, .int .i64 0, .int .i64 0, .int .i64 0, .string { data := #[] }, .string { data := #[] }, .string { data := #[] }, .string { data := #[] }, .string { data := #[] }, .string { data := #[] }, .string { data := #[] }, .string { data := #[] }, .string { data := #[] }, .int .i64 0, .int .i64 0, .int .i64 0, .int .i64 0, .int .i64 0, .int .i64 0, .int .i64 0, .int .i64 0, .int .i64 0] ∧ (wr.alloc (.cells #[.int .i64 d.side, .int .i64 d.play, .int .i64 d.slot, .string d.name, .int .i64 d.pos] 144)).ownsRow (w.heap.size + 2) 144 5 u8 out.length (flatC out) ∧ Bk (wr.alloc (.cells #[.int .i64 d.side, .int .i64 d.play, .int .i64 d.slot, .string d.name, .int .i64 d.pos] 144)) wr.heap.size 144 #[.int .i64 d.side, .int .i64 d.play, .int .i64 d.slot, .string d.name, .int .i64 d.pos]) := ⟨bt_alloc F1.out.1 _, F1.out.2.1.alloc _, F1.out.2.2.1.alloc _, F1.out.2.2.2.alloc _, Bk.new wr 144 _⟩
    clear F1 c0 c1 c2 c3 c4
    generalize (wr.alloc (.cells #[.int .i64 d.side, .int .i64 d.play, .int .i64 d.slot, .string d.name, .int .i64 d.pos] 144)) = W1 at F2 ⊢
    generalize wr.heap.size = gc at F2 ⊢
    have Hm : Hid (∀ W, Calls Tryz.prog 84 #[.agg T1.cells.toArray, .agg #[.int .i64 d.side, .int .i64 d.play, .int .i64 d.slot, .string d.name, .int .i64 d.pos]] W fun x w' => x = .returned (.agg (T1.made d).cells.toArray) ∧ Below W.heap.size W w') := fun W => refMade_any T1 Ht1.out _ rfl d Hdo.out W
    have Hmok := Lib.hid (Tms.made_ok' T1 Ht1.out d)
    have Hi1 := Lib.hid (info46s T1.cells.toArray.size (Tms.size36 T1 Ht1.out))
    have Hi2 := Lib.hid (info46s (T1.made d).cells.toArray.size (Tms.size36 _ Hmok.out))
    have Hone := Lib.hid (Tms.oneCell (T1.made d))
    have Hss : Hid (T1.cells.toArray.size = (T1.made d).cells.toArray.size) := by show _ = _; rw [Tms.size36 _ Ht1.out, Tms.size36 _ Hmok.out]
    have Hi144 : Hid ((Tryz.prog.info? 144).map (·.size) = some 5) := size144D
    generalize T1.cells = tc1 at F2 Hm Hi1 Hss
    generalize hmc : (T1.made d).cells = mc at Hm Hi2 Hone Hss
    have Hmc := Lib.hid hmc; clear hmc
    have hbT := F2.out.2.1
    have hbD := F2.out.2.2.2.2
    go_upto_region 4 with (first
     | (refine wpList_load_row rfl 46 _ rfl w.heap.size rfl 46 tc1.toArray (0, 0) _ hbT Tryz.underlying46 rfl Hi1.out ?_)
     | (refine wpList_load_row rfl 144 _ rfl gc rfl 144 #[.int .i64 d.side, .int .i64 d.play, .int .i64 d.slot, .string d.name, .int .i64 d.pos] (0, 0) _ hbD Tryz.underlying144 rfl Hi144.out ?_)
     | (go_at_call 84; with_reducible refine (Hm.out _).mono ?_; rintro e w6 ⟨rfl, hb6⟩)
     | (refine wpList_store_mid rfl 46 (.tmp 3) (.tmp 27) rfl w.heap.size 0 mc.toArray rfl rfl ((hbT.below hb6 hbT.lt).there mc.toArray.size (by rw [Hss.out]; exact Nat.le_refl _)) Hi2.out Hone.out ?_))
    have F6 : Hid (Below w.heap.size w (w6.setCells w.heap.size 0 mc) ∧ Bk (w6.setCells w.heap.size 0 mc) w.heap.size 46 mc.toArray ∧ Bk (w6.setCells w.heap.size 0 mc) (w.heap.size + 1) 46 #[.string { data := #[] }, .string { data := #[] }, .string { data := #[] }, .string { data := #[] }, .string { data := #[] }, .string { data := #[] }, .string { data := #[] }, .string { data := #[] }, .string { data := #[] }, .int .i64 0, .int .i64 0, .int .i64 0, .int .i64 0, .int .i64 0, .int .i64 0, .int .i64 0, .int .i64 0, .int .i64 0, .string { data := #[] }, .string { data := #[] }, .string { data := #[] }, .string { data := #[] }, .string { data := #[] }, .string { data := #[] }, .string { data := #[] }, .string { data := #[] }, .string { data := #[] }, .int .i64 0, .int .i64 0, .int .i64 0, .int .i64 0, .int .i64 0, .int .i64 0, .int .i64 0, .int .i64 0, .int .i64 0] ∧ (w6.setCells w.heap.size 0 mc).ownsRow (w.heap.size + 2) 144 5 u8 out.length (flatC out)) := by
     refine ⟨below_sets (Nat.le_refl _) (bt_trans F2.out.1 hb6) _ _, ?_, Bk.setsFar (by omega) _ _ (F2.out.2.2.1.below hb6 F2.out.2.2.1.lt), own_setsFar (own_below F2.out.2.2.2.1 hb6) (by omega) _ _⟩
     have := (hbT.below hb6 hbT.lt).fill mc.toArray (by rw [Hss.out])
     simpa using this
    clear F2 hb6 hbT hbD Hm Hi1 Hi2 Hone Hss
    generalize (w6.setCells w.heap.size 0 mc) = W6 at F6 ⊢
    go_wp2
    go_roundw
    case rel => exact ⟨k + 1, T1.made d, out, by omega, by go_num, Hmok.out, F6.out.1, by rw [Hmc.out]; exact F6.out.2.1, F6.out.2.2.1, F6.out.2.2.2, Hat.out, Hr.out, by omega⟩
    case measure => simp [intOf]; omega
   ·
    have n1 : p ≤ d.play := by omega
    have n2 : ¬ d.play ≤ p - 1 := by omega
    rw [if_pos n1, ← List.append_assoc] at Hr
    rw [if_neg n2] at Hat
    have hpp := Hp.out
    have u1 : IntKind.i64.wrap (d.play - p) = d.play - p := IntWalk.i64_in _ (by omega)
    clear n1 n2 hdp hpp
    have hcs := new_cells (wr.alloc (.cells #[.int .i64 d.side, .int .i64 (d.play - p), .int .i64 d.slot, .string d.name, .int .i64 d.pos] 144)) #[.int .i64 d.side, .int .i64 (d.play - p), .int .i64 d.slot, .string d.name, .int .i64 d.pos] 144
    rw [World.size_alloc] at hcs
    have Hcs := Lib.hid hcs; clear hcs
    go_wp2_with (at_builtin; refine wpList_append_own _ rfl _ _ 47 rfl (w.heap.size + 2) 144 i0 (.agg #[.int .i64 0, .int .i64 0, .int .i64 0, .string { data := #[] }, .int .i64 0]) 5 48 Tryz.underlying47 hi hz0 hz1 hz2 rfl (by decide) _ _ _ rfl ((F1.out.2.2.2.alloc _).alloc _) ⟨wr.heap.size + 1, 0, none⟩ 1 1 (#[.int .i64 d.side, .int .i64 (d.play - p), .int .i64 d.slot, .string d.name, .int .i64 d.pos] : Array Value).toList rfl rfl Hcs.out (by simp [Value.oneCell']) (by unfold maxLen; omega) (by omega) (by simp; omega) ?_; intro v' w5 hown' hgrow hnil)
    have F5 : Hid (Below w.heap.size w w5 ∧ Bk w5 w.heap.size 46 T1.cells.toArray ∧ Bk w5 (w.heap.size + 1) 46 #[.string { data := #[] }, .string { data := #[] }, .string { data := #[] }, .string { data := #[] }, .string { data := #[] }, .string { data := #[] }, .string { data := #[] }, .string { data := #[] }, .string { data := #[] }, .int .i64 0, .int .i64 0, .int .i64 0, .int .i64 0, .int .i64 0, .int .i64 0, .int .i64 0, .int .i64 0, .int .i64 0, .string { data := #[] }, .string { data := #[] }, .string { data := #[] }, .string { data := #[] }, .string { data := #[] }, .string { data := #[] }, .string { data := #[] }, .string { data := #[] }, .string { data := #[] }, .int .i64 0, .int .i64 0, .int .i64 0, .int .i64 0, .int .i64 0, .int .i64 0, .int .i64 0, .int .i64 0, .int .i64 0] ∧ w5.ownsRow (w.heap.size + 2) 144 5 v' (out ++ [d.less p]).length (flatC (out ++ [d.less p]))) := by
     refine ⟨(bt_alloc (bt_alloc F1.out.1 _) _).grown hgrow (by simp; omega) (fun q e => by have := (F1.out.2.2.2.lt q e).1; omega), (hgrow.block _ (by simp; omega) (fun e => by have := (F1.out.2.2.2.lt _ e.symm).1; omega)).trans ((F1.out.2.1.alloc _).alloc _), (hgrow.block _ (by simp; omega) (fun e => by have := (F1.out.2.2.2.lt _ e.symm).1; omega)).trans ((F1.out.2.2.1.alloc _).alloc _), ?_⟩
     rw [flatC_append, flatC_one, List.length_append]; exact hown'
    clear hown' hgrow hnil Hcs F1
    go_roundw
    case rel => exact ⟨k + 1, T1, out ++ [d.less p], by omega, by go_num, Ht1.out, F5.out.1, F5.out.2.1, F5.out.2.2.1, F5.out.2.2.2, Hat.out, Hr.out, by simp; omega⟩
    case measure => simp [intOf]; omega
  ·
   obtain rfl : k = n := by omega
   have hd0 : l.drop k = [] := List.drop_of_length_le (by rw [Hn.out]; exact Nat.le_refl _)
   rw [hd0] at Hr Hat
   have e1 : Hid (atAll t l (p - 1) = T1) := Hat.out
   have e2 : Hid (restR l p = out) := by show _ = _; rw [Hr.out]; simp [restR]
   obtain ⟨hx7, A7, c7, rfl, hr7⟩ := SlK.of_own F1.out.2.2.2
   have HR : Hid (RdC wr A7 out) := RdC.of_slk ⟨hx7, A7, c7, rfl, hr7⟩
   have Hne : Hid (∀ a, A7 = some a → a.block ≠ w.heap.size + 1) := fun a e => by
    subst e
    have := (F1.out.2.2.2.lt a.block rfl).1
    omega
   have Hth : Hid (wr.there (w.heap.size + 1) 0 T1.cells.toArray.size) := F1.out.2.2.1.there _ (by rw [Tms.size36 _ Ht1.out]; exact Nat.le_refl _)
   have Hi := Lib.hid (info46s T1.cells.toArray.size (Tms.size36 _ Ht1.out))
   have Hone := Lib.hid (Tms.oneCell T1)
   clear hx7 hr7 hd0
   go_wp2_with (first
    | (refine wpList_load_row rfl 46 _ rfl w.heap.size rfl 46 T1.cells.toArray (0, 0) _ F1.out.2.1 Tryz.underlying46 rfl Hi.out ?_)
    | (refine wpList_store_mid rfl 46 (.tmp 6) (.tmp 37) rfl (w.heap.size + 1) 0 T1.cells.toArray rfl rfl Hth.out Hi.out Hone.out ?_))
   refine bodyPost_ret (results_cell_row2 rfl _ _ (w.heap.size + 1) 46 T1.cells.toArray _ rfl (F1.out.2.2.1.fill T1.cells.toArray (by rw [Tms.size36 _ Ht1.out]; rfl)) Tryz.underlying46 rfl Hi.out) rfl ?_
   rw [e1.out, e2.out]
   refine ⟨?_, below_sets (by omega) F1.out.1 _ _⟩
   first
    | exact ⟨A7, c7, rfl, rdc_sets HR.out Hne.out _⟩
    | exact ⟨A7, ⟨c7, rfl⟩, rdc_sets HR.out Hne.out _⟩
end Go.Proofs.YtmagppkclnebjaaGreatDoor

set_option linter.unusedSimpArgs false
set_option linter.unusedVariables false
namespace Go.Proofs.YtmagppkclnebjaaGreatDoor
open Go.RowKit
open L

theorem run_slice_from (A : Option Addr) (n c k : Nat) (hk : k ≤ n) (hnc : n ≤ c) :
 ∃ A', (∀ W, (Instr.slice 56 (.slice A n c) (some (.int .i64 k)) none none).run Tryz.prog W = .ok (.slice A' (n - k) (c - k)) W) ∧ (k < n → ∀ b off, A = some ⟨b, off, none⟩ → A' = some ⟨b, off + k * 5, none⟩) := by
 obtain ⟨i, hi, h5⟩ : ∃ i, Tryz.prog.info? 142 = some i ∧ i.size = 5 := by
  have := size142D
  cases h : Tryz.prog.info? 142 with
  | none => rw [h] at this; simp at this
  | some i => rw [h] at this; exact ⟨i, rfl, by simpa using this⟩
 refine ⟨if c = k then A else Option.map (fun x => x.add (k * 5)) A, fun W => ?_, fun h b off e => ?_⟩
 ·
  simp [Instr.slice, run_underlying Tryz.underlying56, Instr.sliceBounds, hi, h5, go_sem, hk]
 ·
  rw [if_neg (by omega), e]
  simp [Addr.add]
theorem rdc_drop {W : World} {A A' : Option Addr} {l : List Chg} {k : Nat} (h : RdC W A l) (hA : k < l.length → ∀ b off, A = some ⟨b, off, none⟩ → A' = some ⟨b, off + k * 5, none⟩) : RdC W A' (l.drop k) := by
 intro j hj
 have hj2 : k + j < l.length := by rw [List.length_drop] at hj; omega
 obtain ⟨b, off, e, hc⟩ := h (k + j) hj2
 refine ⟨b, off + k * 5, hA (by omega) b off e, fun q hq => ?_⟩
 have := hc q hq
 rw [show off + (k + j) * 5 + q = off + k * 5 + j * 5 + q by omega] at this
 rw [this]
 simp [List.getD, List.getElem?_drop]

def L.splitP (t : Tms) (l : List Chg) (p : Int) : Tms × List Chg × Int := if ccIdx t l p ≠ 0 then (Tms.zero, [], ccIdx t l p) else (atL t l (p - 1), restR l p, 0)
/-- from where on the other changes lie -/
def L.cutAt (l : List Chg) (p : Int) : Nat := if idxF (fun d : Chg => decide (p ≤ d.play)) l < 0 then l.length else (idxF (fun d : Chg => decide (p ≤ d.play)) l).toNat
theorem cutAt_le (l : List Chg) (p : Int) : cutAt l p ≤ l.length := by
 unfold cutAt
 have := idxF_bd (fun d : Chg => decide (p ≤ d.play)) l
 split <;> omega
theorem cutAt_drop (l : List Chg) (p : Int) (h : l.Pairwise (fun a b => a.play ≤ b.play)) : (l.drop (cutAt l p)).map (·.less p) = restR l p := by
 rw [← rest_eq l p h]
 unfold restL cutAt
 split
 ·
  rw [List.drop_length]
 ·
  rfl

set_option maxHeartbeats 4000000 in
set_option maxRecDepth 100000 in
theorem split_any (t : Tms) (ht : t.ok) (T : Array Value) (hT : T = t.cells.toArray) (l : List Chg) (A : Option Addr) (n c : Nat) (hn : l.length = n) (hnc : n ≤ c) (p : Int) (w : World) (hl : RdC w A l) :
 Calls Tryz.prog 58 #[.agg T, .slice A n c, .int .i64 p] w fun x w' => (∃ B d, x = .returned (.tuple #[.agg (splitP t l p).1.cells.toArray, .slice B (splitP t l p).2.1.length d, .int .i64 (splitP t l p).2.2]) ∧ RdC w' B (splitP t l p).2.1) ∧ Below w.heap.size w w' := by
 have F : Hid ((Below w.heap.size w (((w.alloc (.cells T 54)).alloc (.cells #[.int .i64 p] 3)).alloc (.cells #[.string { data := #[] }, .string { data := #[] }, .string { data := #[] }, .string { data := #[] }, .string { data := #[] }, .string { data := #[] }, .string { data := #[] }, .string { data := #[] }, .string { data := #[] }, .int .i64 0, .int .i64 0, .int .i64 0, .int .i64 0, .int .i64 0, .int .i64 0, .int .i64 0, .int .i64 0, .int .i64 0, .string { data := #[] }, .string { data := #[] }, .string { data := #[] }, .string { data := #[] }, .string { data := #[] }, .string { data := #[] }, .string { data := #[] }, .string { data := #[] }, .string { data := #[] }, .int .i64 0, .int .i64 0, .int .i64 0, .int .i64 0, .int .i64 0, .int .i64 0, .int .i64 0, .int .i64 0, .int .i64 0] 54)) ∧ Bk (((w.alloc (.cells T 54)).alloc (.cells #[.int .i64 p] 3)).alloc (.cells #[.string { data := #[] }, .string { data := #[] }, .string { data := #[] }, .string { data := #[] }, .string { data := #[] }, .string { data := #[] }, .string { data := #[] }, .string { data := #[] }, .string { data := #[] }, .int .i64 0, .int .i64 0, .int .i64 0, .int .i64 0, .int .i64 0, .int .i64 0, .int .i64 0, .int .i64 0, .int .i64 0, .string { data := #[] }, .string { data := #[] }, .string { data := #[] }, .string { data := #[] }, .string { data := #[] }, .string { data := #[] }, .string { data := #[] }, .string { data := #[] }, .string { data := #[] }, .int .i64 0, .int .i64 0, .int .i64 0, .int .i64 0, .int .i64 0, .int .i64 0, .int .i64 0, .int .i64 0, .int .i64 0] 54)) w.heap.size 54 t.cells.toArray ∧
  Bk (((w.alloc (.cells T 54)).alloc (.cells #[.int .i64 p] 3)).alloc (.cells #[.string { data := #[] }, .string { data := #[] }, .string { data := #[] }, .string { data := #[] }, .string { data := #[] }, .string { data := #[] }, .string { data := #[] }, .string { data := #[] }, .string { data := #[] }, .int .i64 0, .int .i64 0, .int .i64 0, .int .i64 0, .int .i64 0, .int .i64 0, .int .i64 0, .int .i64 0, .int .i64 0, .string { data := #[] }, .string { data := #[] }, .string { data := #[] }, .string { data := #[] }, .string { data := #[] }, .string { data := #[] }, .string { data := #[] }, .string { data := #[] }, .string { data := #[] }, .int .i64 0, .int .i64 0, .int .i64 0, .int .i64 0, .int .i64 0, .int .i64 0, .int .i64 0, .int .i64 0, .int .i64 0] 54)) (w.heap.size + 1) 3 #[.int .i64 p]) ∧ Bk (((w.alloc (.cells T 54)).alloc (.cells #[.int .i64 p] 3)).alloc (.cells #[.string { data := #[] }, .string { data := #[] }, .string { data := #[] }, .string { data := #[] }, .string { data := #[] }, .string { data := #[] }, .string { data := #[] }, .string { data := #[] }, .string { data := #[] }, .int .i64 0, .int .i64 0, .int .i64 0, .int .i64 0, .int .i64 0, .int .i64 0, .int .i64 0, .int .i64 0, .int .i64 0, .string { data := #[] }, .string { data := #[] }, .string { data := #[] }, .string { data := #[] }, .string { data := #[] }, .string { data := #[] }, .string { data := #[] }, .string { data := #[] }, .string { data := #[] }, .int .i64 0, .int .i64 0, .int .i64 0, .int .i64 0, .int .i64 0, .int .i64 0, .int .i64 0, .int .i64 0, .int .i64 0] 54)) (w.heap.size + 2) 54 #[.string { data := #[] }, .string { data := #[] }, .string { data := #[] }, .string { data := #[] }, .string { data := #[] }, .string { data := #[] }, .string { data := #[] }, .string { data := #[] }, .string { data := #[] }, .int .i64 0, .int .i64 0, .int .i64 0, .int .i64 0, .int .i64 0, .int .i64 0, .int .i64 0, .int .i64 0, .int .i64 0, .string { data := #[] }, .string { data := #[] }, .string { data := #[] }, .string { data := #[] }, .string { data := #[] }, .string { data := #[] }, .string { data := #[] }, .string { data := #[] }, .string { data := #[] }, .int .i64 0, .int .i64 0, .int .i64 0, .int .i64 0, .int .i64 0, .int .i64 0, .int .i64 0, .int .i64 0, .int .i64 0]) := by
  have h1 := Bk.new (w.alloc (.cells T 54)) 3 #[.int .i64 p]
  rw [World.size_alloc] at h1
  have h2 := Bk.new ((w.alloc (.cells T 54)).alloc (.cells #[.int .i64 p] 3)) 54 #[.string { data := #[] }, .string { data := #[] }, .string { data := #[] }, .string { data := #[] }, .string { data := #[] }, .string { data := #[] }, .string { data := #[] }, .string { data := #[] }, .string { data := #[] }, .int .i64 0, .int .i64 0, .int .i64 0, .int .i64 0, .int .i64 0, .int .i64 0, .int .i64 0, .int .i64 0, .int .i64 0, .string { data := #[] }, .string { data := #[] }, .string { data := #[] }, .string { data := #[] }, .string { data := #[] }, .string { data := #[] }, .string { data := #[] }, .string { data := #[] }, .string { data := #[] }, .int .i64 0, .int .i64 0, .int .i64 0, .int .i64 0, .int .i64 0, .int .i64 0, .int .i64 0, .int .i64 0, .int .i64 0]
  rw [World.size_alloc, World.size_alloc] at h2
  exact ⟨⟨bt_alloc (bt_alloc (bt_new w _) _) _, by rw [← hT]; exact ((Bk.new w 54 T).alloc _).alloc _, h1.alloc _⟩, h2⟩
 have Ht := Lib.hid ht; have Hn := Lib.hid hn; have Hl := Lib.hid hl
 have Hi : Hid ((Tryz.prog.info? 54).map (·.size) = some t.cells.length) := by show _ = _; rw [Tms.cells_len t ht]; exact info54T
 have Hcc : Hid (∀ W, Below w.heap.size w W → Calls Tryz.prog 61 #[.agg t.cells.toArray, .slice A n c] W fun x w' => x = .returned (.int .i64 (checkChanges t l)) ∧ Below W.heap.size W w') := fun W hW =>
  checkChanges_pre t ht _ rfl l A n c hn W (hl.below hW)
 have KQ : Hid (∀ X Y, (Below w.heap.size w X ∧ Bk X w.heap.size 54 t.cells.toArray ∧ Bk X (w.heap.size + 1) 3 #[.int .i64 p]) → Below X.heap.size X Y → (Below w.heap.size w Y ∧ Bk Y w.heap.size 54 t.cells.toArray ∧ Bk Y (w.heap.size + 1) 3 #[.int .i64 p])) := fun X Y h hb => ⟨bt_trans h.1 hb, h.2.1.below hb h.2.1.lt, h.2.2.below hb h.2.2.lt⟩
 have HX : Hid (∀ X, (Below w.heap.size w X ∧ Bk X w.heap.size 54 t.cells.toArray ∧ Bk X (w.heap.size + 1) 3 #[.int .i64 p]) → X.cell? ⟨w.heap.size + 1, 0, none⟩ = some (.int .i64 p)) := fun X h => by rw [h.2.2.cell]; rfl
 have HR : Hid (∀ X, (Below w.heap.size w X ∧ Bk X w.heap.size 54 t.cells.toArray ∧ Bk X (w.heap.size + 1) 3 #[.int .i64 p]) → X.rangeAt w.heap.size 0 t.cells) := fun X h => bkRangeT h.2.1
 obtain ⟨cc, hcce⟩ : ∃ cc, cc = checkChanges t l := ⟨_, rfl⟩
 obtain ⟨Q, hQ⟩ : ∃ Q : World → Prop, Q = fun X => (Below w.heap.size w X ∧ Bk X w.heap.size 54 t.cells.toArray ∧ Bk X (w.heap.size + 1) 3 #[.int .i64 p]) := ⟨_, rfl⟩
 have hF : Hid (Q (((w.alloc (.cells T 54)).alloc (.cells #[.int .i64 p] 3)).alloc (.cells #[.string { data := #[] }, .string { data := #[] }, .string { data := #[] }, .string { data := #[] }, .string { data := #[] }, .string { data := #[] }, .string { data := #[] }, .string { data := #[] }, .string { data := #[] }, .int .i64 0, .int .i64 0, .int .i64 0, .int .i64 0, .int .i64 0, .int .i64 0, .int .i64 0, .int .i64 0, .int .i64 0, .string { data := #[] }, .string { data := #[] }, .string { data := #[] }, .string { data := #[] }, .string { data := #[] }, .string { data := #[] }, .string { data := #[] }, .string { data := #[] }, .string { data := #[] }, .int .i64 0, .int .i64 0, .int .i64 0, .int .i64 0, .int .i64 0, .int .i64 0, .int .i64 0, .int .i64 0, .int .i64 0] 54)) ∧ Bk (((w.alloc (.cells T 54)).alloc (.cells #[.int .i64 p] 3)).alloc (.cells #[.string { data := #[] }, .string { data := #[] }, .string { data := #[] }, .string { data := #[] }, .string { data := #[] }, .string { data := #[] }, .string { data := #[] }, .string { data := #[] }, .string { data := #[] }, .int .i64 0, .int .i64 0, .int .i64 0, .int .i64 0, .int .i64 0, .int .i64 0, .int .i64 0, .int .i64 0, .int .i64 0, .string { data := #[] }, .string { data := #[] }, .string { data := #[] }, .string { data := #[] }, .string { data := #[] }, .string { data := #[] }, .string { data := #[] }, .string { data := #[] }, .string { data := #[] }, .int .i64 0, .int .i64 0, .int .i64 0, .int .i64 0, .int .i64 0, .int .i64 0, .int .i64 0, .int .i64 0, .int .i64 0] 54)) (w.heap.size + 2) 54 #[.string { data := #[] }, .string { data := #[] }, .string { data := #[] }, .string { data := #[] }, .string { data := #[] }, .string { data := #[] }, .string { data := #[] }, .string { data := #[] }, .string { data := #[] }, .int .i64 0, .int .i64 0, .int .i64 0, .int .i64 0, .int .i64 0, .int .i64 0, .int .i64 0, .int .i64 0, .int .i64 0, .string { data := #[] }, .string { data := #[] }, .string { data := #[] }, .string { data := #[] }, .string { data := #[] }, .string { data := #[] }, .string { data := #[] }, .string { data := #[] }, .string { data := #[] }, .int .i64 0, .int .i64 0, .int .i64 0, .int .i64 0, .int .i64 0, .int .i64 0, .int .i64 0, .int .i64 0, .int .i64 0]) := by rw [hQ]; exact F.out
 have kQ : Hid (∀ X Y, Q X → Below X.heap.size X Y → Q Y) := by rw [hQ]; exact KQ.out
 have HQb : Hid (∀ X, Q X → Below w.heap.size w X) := by rw [hQ]; exact fun X h => h.1
 have HQx : Hid (∀ X, Q X → X.cell? ⟨w.heap.size + 1, 0, none⟩ = some (.int .i64 p)) := by rw [hQ]; exact HX.out
 have HQr : Hid (∀ X, Q X → X.rangeAt w.heap.size 0 t.cells) := by rw [hQ]; exact HR.out
 have HQs : Hid (∀ X vs, Q X → Q (X.setCells (w.heap.size + 2) 0 vs)) := by rw [hQ]; exact fun X vs h => ⟨below_sets (by omega) h.1 _ _, Bk.setsFar (by omega) _ _ h.2.1, Bk.setsFar (by omega) _ _ h.2.2⟩
 clear F KQ HX HR hQ ht hn hl hT
 go_enter Tryz.func58, Tryz.ntmps58
 go_upto_region 1 with fail
 generalize (((w.alloc (.cells T 54)).alloc (.cells #[.int .i64 p] 3)).alloc (.cells #[.string { data := #[] }, .string { data := #[] }, .string { data := #[] }, .string { data := #[] }, .string { data := #[] }, .string { data := #[] }, .string { data := #[] }, .string { data := #[] }, .string { data := #[] }, .int .i64 0, .int .i64 0, .int .i64 0, .int .i64 0, .int .i64 0, .int .i64 0, .int .i64 0, .int .i64 0, .int .i64 0, .string { data := #[] }, .string { data := #[] }, .string { data := #[] }, .string { data := #[] }, .string { data := #[] }, .string { data := #[] }, .string { data := #[] }, .string { data := #[] }, .string { data := #[] }, .int .i64 0, .int .i64 0, .int .i64 0, .int .i64 0, .int .i64 0, .int .i64 0, .int .i64 0, .int .i64 0, .int .i64 0] 54)) = W0 at hF ⊢
 go_cut [9] from 12 (fun s9 wr => s9 = .int .i64 (ccIdx t l p) ∧ Q wr ∧ Bk wr (w.heap.size + 2) 54 #[.string { data := #[] }, .string { data := #[] }, .string { data := #[] }, .string { data := #[] }, .string { data := #[] }, .string { data := #[] }, .string { data := #[] }, .string { data := #[] }, .string { data := #[] }, .int .i64 0, .int .i64 0, .int .i64 0, .int .i64 0, .int .i64 0, .int .i64 0, .int .i64 0, .int .i64 0, .int .i64 0, .string { data := #[] }, .string { data := #[] }, .string { data := #[] }, .string { data := #[] }, .string { data := #[] }, .string { data := #[] }, .string { data := #[] }, .string { data := #[] }, .string { data := #[] }, .int .i64 0, .int .i64 0, .int .i64 0, .int .i64 0, .int .i64 0, .int .i64 0, .int .i64 0, .int .i64 0, .int .i64 0])
 case first =>
  have hS0 : Q W0.drew ∧ Bk W0.drew (w.heap.size + 2) 54 #[.string { data := #[] }, .string { data := #[] }, .string { data := #[] }, .string { data := #[] }, .string { data := #[] }, .string { data := #[] }, .string { data := #[] }, .string { data := #[] }, .string { data := #[] }, .int .i64 0, .int .i64 0, .int .i64 0, .int .i64 0, .int .i64 0, .int .i64 0, .int .i64 0, .int .i64 0, .int .i64 0, .string { data := #[] }, .string { data := #[] }, .string { data := #[] }, .string { data := #[] }, .string { data := #[] }, .string { data := #[] }, .string { data := #[] }, .string { data := #[] }, .string { data := #[] }, .int .i64 0, .int .i64 0, .int .i64 0, .int .i64 0, .int .i64 0, .int .i64 0, .int .i64 0, .int .i64 0, .int .i64 0] := ⟨kQ.out _ _ hF.out.1 (bt_drew (Below.refl _ W0)), hF.out.2.drew⟩
  have kS : Hid (∀ X Y, (Q X ∧ Bk X (w.heap.size + 2) 54 #[.string { data := #[] }, .string { data := #[] }, .string { data := #[] }, .string { data := #[] }, .string { data := #[] }, .string { data := #[] }, .string { data := #[] }, .string { data := #[] }, .string { data := #[] }, .int .i64 0, .int .i64 0, .int .i64 0, .int .i64 0, .int .i64 0, .int .i64 0, .int .i64 0, .int .i64 0, .int .i64 0, .string { data := #[] }, .string { data := #[] }, .string { data := #[] }, .string { data := #[] }, .string { data := #[] }, .string { data := #[] }, .string { data := #[] }, .string { data := #[] }, .string { data := #[] }, .int .i64 0, .int .i64 0, .int .i64 0, .int .i64 0, .int .i64 0, .int .i64 0, .int .i64 0, .int .i64 0, .int .i64 0]) → Below X.heap.size X Y → (Q Y ∧ Bk Y (w.heap.size + 2) 54 #[.string { data := #[] }, .string { data := #[] }, .string { data := #[] }, .string { data := #[] }, .string { data := #[] }, .string { data := #[] }, .string { data := #[] }, .string { data := #[] }, .string { data := #[] }, .int .i64 0, .int .i64 0, .int .i64 0, .int .i64 0, .int .i64 0, .int .i64 0, .int .i64 0, .int .i64 0, .int .i64 0, .string { data := #[] }, .string { data := #[] }, .string { data := #[] }, .string { data := #[] }, .string { data := #[] }, .string { data := #[] }, .string { data := #[] }, .string { data := #[] }, .string { data := #[] }, .int .i64 0, .int .i64 0, .int .i64 0, .int .i64 0, .int .i64 0, .int .i64 0, .int .i64 0, .int .i64 0, .int .i64 0])) := fun X Y h hb => ⟨kQ.out _ _ h.1 hb, h.2.below hb h.2.lt⟩
  have HS : Hid (∀ X, (Q X ∧ Bk X (w.heap.size + 2) 54 #[.string { data := #[] }, .string { data := #[] }, .string { data := #[] }, .string { data := #[] }, .string { data := #[] }, .string { data := #[] }, .string { data := #[] }, .string { data := #[] }, .string { data := #[] }, .int .i64 0, .int .i64 0, .int .i64 0, .int .i64 0, .int .i64 0, .int .i64 0, .int .i64 0, .int .i64 0, .int .i64 0, .string { data := #[] }, .string { data := #[] }, .string { data := #[] }, .string { data := #[] }, .string { data := #[] }, .string { data := #[] }, .string { data := #[] }, .string { data := #[] }, .string { data := #[] }, .int .i64 0, .int .i64 0, .int .i64 0, .int .i64 0, .int .i64 0, .int .i64 0, .int .i64 0, .int .i64 0, .int .i64 0]) → X.cell? ⟨w.heap.size + 1, 0, none⟩ = some (.int .i64 p) ∧ (Q X ∧ Bk X (w.heap.size + 2) 54 #[.string { data := #[] }, .string { data := #[] }, .string { data := #[] }, .string { data := #[] }, .string { data := #[] }, .string { data := #[] }, .string { data := #[] }, .string { data := #[] }, .string { data := #[] }, .int .i64 0, .int .i64 0, .int .i64 0, .int .i64 0, .int .i64 0, .int .i64 0, .int .i64 0, .int .i64 0, .int .i64 0, .string { data := #[] }, .string { data := #[] }, .string { data := #[] }, .string { data := #[] }, .string { data := #[] }, .string { data := #[] }, .string { data := #[] }, .string { data := #[] }, .string { data := #[] }, .int .i64 0, .int .i64 0, .int .i64 0, .int .i64 0, .int .i64 0, .int .i64 0, .int .i64 0, .int .i64 0, .int .i64 0])) := fun X h => ⟨HQx.out _ h.1, h⟩
  generalize t.cells = tc at Hi Hcc HQr
  refine wp_region_held_drew (S := (fun X => X.cell? ⟨w.heap.size + 1, 0, none⟩ = some (.int .i64 p) ∧ (Q X ∧ Bk X (w.heap.size + 2) 54 #[.string { data := #[] }, .string { data := #[] }, .string { data := #[] }, .string { data := #[] }, .string { data := #[] }, .string { data := #[] }, .string { data := #[] }, .string { data := #[] }, .string { data := #[] }, .int .i64 0, .int .i64 0, .int .i64 0, .int .i64 0, .int .i64 0, .int .i64 0, .int .i64 0, .int .i64 0, .int .i64 0, .string { data := #[] }, .string { data := #[] }, .string { data := #[] }, .string { data := #[] }, .string { data := #[] }, .string { data := #[] }, .string { data := #[] }, .string { data := #[] }, .string { data := #[] }, .int .i64 0, .int .i64 0, .int .i64 0, .int .i64 0, .int .i64 0, .int .i64 0, .int .i64 0, .int .i64 0, .int .i64 0]))) (by kernel_rfl) (HS.out _ hS0) (fun hHeld => ?_)
  refine ldE (i := 0) rfl rfl rfl (tc) (fun W h => HQr.out W h.2.1) Tryz.underlying54 rfl (Hi.out) ?_
  refine tkE (i := 1) rfl ?_
  refine tkE (i := 3) rfl ?_
  refine rdE (i := 2) rfl (fun K hK => ?_)
  go_simp
  (go_at_call 61; refine (Hcc.out _ (HQb.out _ hHeld.2.1)).mono ?_; rintro e w2 ⟨rfl, hb2⟩)
  go_wp2_with fail
  refine onE hK (HS.out _ (kS.out _ _ hHeld.2 hb2)) (fun hHeld => ?_)
  clear hK K
  refine rdE (i := 4) rfl (fun K hK => ?_)
  go_simp
  (go_at_call 90; refine (indexed_any _ _).mono ?_; rintro e w' ⟨rfl, rfl⟩)
  go_wp2_with fail
  refine onE hK (hHeld) (fun hHeld => ?_)
  clear hK K
  refine rdE (i := 5) rfl (fun K hK => ?_)
  go_simp
  refine onE hK (HS.out _ (kS.out _ _ hHeld.2 (bt_new _ _))) (fun hHeld => ?_)
  clear hK K
  refine rdE (i := 6) rfl (fun K hK => ?_)
  go_simp
  (go_at_call 89; refine (first2 _ _ _ _ _ _ (by exact heap_alloc_new _ _)).mono ?_; rintro e w' ⟨rfl, rfl⟩)
  go_wp2_with fail
  refine onE hK (hHeld) (fun hHeld => ?_)
  clear hK K
  refine tkE (i := 7) rfl ?_
  refine wpAnyH_done (by kernel_rfl) ?_ _
  go_wp2_with fail
  go_meet
  exact ⟨rfl, hHeld.2⟩
 case rest =>
  obtain ⟨rfl, hQ1, hZ1⟩ := hcut
  clear hF
  generalize wc = W1 at hQ1 hZ1 ⊢
  by_cases hE : ccIdx t l p = 0
  ·
   have hz : (ccIdx t l p != 0) = false := by simpa using hE
   obtain ⟨h0, hp0, hp1⟩ := ccIdx_zero hE
   have hr : splitP t l p = (atL t l (p - 1), restR l p, 0) := by unfold splitP; rw [if_neg (by rw [hE]; simp)]
   have Hr := Lib.hid hr
   have hok := okS_all h0
   have h64 := (cc_parts h0).2.1
   have hplay : ∀ d ∈ l, 0 ≤ d.play ∧ d.play ≤ 256 := fun d hd => (checkC_zero ((cc_parts h0).2.2.1 d hd)).2.1
   have hsort := plays_sorted (cc_sorted h0)
   have hn64 : n ≤ 64 := by have := Hn.out; omega
   have hixb := idxF_bd (fun d : Chg => decide (p ≤ d.play)) l
   have hcut := cutAt_le l p
   have hdrop := cutAt_drop l p hsort
   have H115 : Hid (∀ W, Q W → Calls Tryz.prog 115 #[.slice A n c, .func (.func 116) #[] #[.pointer (some ⟨w.heap.size + 1, 0, none⟩)]] W fun x w' => x = .returned (.int .i64 (idxF (fun d : Chg => decide (p ≤ d.play)) l)) ∧ Below W.heap.size W w') := fun W h =>
    indexFrom_any l A n c Hn.out (by omega) p (w.heap.size + 1) W (Hl.out.below (HQb.out _ h)) (HQx.out _ h)
   have H91 : Hid (∀ W, Q W → Calls Tryz.prog 91 #[.agg t.cells.toArray, .slice A n c, .int .i64 (p - 1)] W fun x w' => x = .returned (.agg (atL t l (p - 1)).cells.toArray) ∧ Below W.heap.size W w') := fun W h =>
    at_any t Ht.out _ rfl l A n c Hn.out (by omega) hok (p - 1) W (Hl.out.below (HQb.out _ h))
   obtain ⟨A', hsl, hA'⟩ := run_slice_from A n c (cutAt l p) (by rw [← Hn.out]; exact hcut) hnc
   have H114 : Hid (∀ W, Q W → Calls Tryz.prog 114 #[.slice A' (n - cutAt l p) (c - cutAt l p), .func (.func 117) #[] #[.pointer (some ⟨w.heap.size + 1, 0, none⟩)]] W fun x w' => (∃ v, x = .returned v ∧ SlK 5 w' v (n - cutAt l p) (flatC (restR l p)) ∧ ∀ r, v.ownBlock = some r → W.heap.size ≤ r) ∧ Below W.heap.size W w') := fun W h => by
    have hx := HQx.out _ h
    have hlt := World.block_lt_of_cell? W ⟨w.heap.size + 1, 0, none⟩ hx
    have := mappedSplit_any (l.drop (cutAt l p)) A' (n - cutAt l p) (c - cutAt l p) (by rw [List.length_drop, Hn.out]) (by omega) (·.less p) (w.heap.size + 1) W (rdc_drop (Hl.out.below (HQb.out _ h)) (fun hk b off e => hA' (by rw [← Hn.out]; exact hk) b off e))
     (fun W' d hd hb => splitClo d.side d.play d.slot d.pos p d.name (w.heap.size + 1) (hplay d (List.mem_of_mem_drop hd)) ⟨hp0, hp1⟩ W' ((hb.cell (p := ⟨w.heap.size + 1, 0, none⟩) hlt).trans hx))
    rw [hdrop] at this
    exact this
   have hlenR : (restR l p).length = n - cutAt l p := by rw [← hdrop, List.length_map, List.length_drop, Hn.out]
   have HlenR := Lib.hid hlenR
   have hca : (cutAt l p : Int) = if idxF (fun d : Chg => decide (p ≤ d.play)) l < 0 then (n : Int) else idxF (fun d : Chg => decide (p ≤ d.play)) l := by
    unfold cutAt
    split
    ·
     rw [Hn.out]
    ·
     omega
   have hcn : cutAt l p ≤ n := by rw [← Hn.out]; exact hcut
   have hok2 := atL_ok l t (p - 1) Ht.out
   have Hs2 := Lib.hid (Tms.size36 _ hok2)
   have Hi2 := Lib.hid (info54s (atL t l (p - 1)).cells.toArray.size (Tms.size36 _ hok2))
   have Hone := Lib.hid (Tms.oneCell (atL t l (p - 1)))
   have u1 : IntKind.i64.wrap (p - 1) = p - 1 := IntWalk.i64_in _ (by omega)
   clear h0 hE hr hok h64 hplay hsort hdrop hA' hcut hlenR hok2 Hcc hnc
   generalize idxF (fun d : Chg => decide (p ≤ d.play)) l = ix at H115 hca hixb
   generalize cutAt l p = kk at H114 hsl HlenR hca hcn
   have k0 : (0 : Int) ≤ (kk : Int) := by omega
   have k1 : (kk : Int) ≤ (n : Int) := by omega
   have Hca := Lib.hid hca; clear hca hixb
   go_upto_region 5 with (go_at_call 115; with_reducible refine (H115.out _ hQ1).mono ?_; rintro e w2 ⟨rfl, hb2⟩)
   have hQ2 := kQ.out _ _ hQ1 hb2
   have hZ2 := hZ1.below hb2 hZ1.lt
   clear hQ1 hZ1 hb2
   go_cut [27] from 12 (fun s27 wr => s27 = .bool (decide (ix < 0)) ∧ wr = w2)
   case first =>
    go_wp2
    go_meet
    exact ⟨rfl, rfl⟩
   case rest =>
   obtain ⟨rfl, hwc⟩ := hcut
   rw [hwc]
   clear hwc
   go_step
   go_cut [10] from 12 (fun s10 wr => s10 = .int .i64 (kk : Int) ∧ wr = w2)
   case first =>
    by_cases hx : ix < 0
    ·
     have he : Hid ((kk : Int) = (n : Int)) := by show _ = _; rw [Hca.out, if_pos hx]
     rw [decide_eq_true hx]
     clear hx hsl k0 k1
     go_wp2
     go_meet
     exact ⟨by rw [he.out], rfl⟩
    ·
     have he : Hid ((kk : Int) = ix) := by show _ = _; rw [Hca.out, if_neg hx]
     rw [decide_eq_false hx]
     clear hx hsl k0 k1
     go_wp2
     go_meet
     exact ⟨by rw [he.out], rfl⟩
   case rest =>
   obtain ⟨rfl, hwc⟩ := hcut
   rw [hwc]
   clear hwc Hca
   go_upto_region 8 with fail
   have HS : Hid (∀ X, Q X → X.cell? ⟨w.heap.size + 1, 0, none⟩ = some (.int .i64 p) ∧ Q X) := fun X h => ⟨HQx.out _ h, h⟩
   have hQd := kQ.out _ _ hQ2 (bt_drew (Below.refl _ w2))
   have hZd := hZ2.drew
   generalize t.cells = tc at Hi HQr H91
   generalize hca2 : (atL t l (p - 1)).cells = ta at H91 Hs2 Hi2 Hone
   have Hta := Lib.hid hca2; clear hca2 hQ2 hZ2
   refine wp_region_held_drew (S := (fun X => X.cell? ⟨w.heap.size + 1, 0, none⟩ = some (.int .i64 p) ∧ Q X)) (by kernel_rfl) (HS.out _ hQd) (fun hHeld => ?_)
   refine ldE (i := 0) rfl rfl rfl (tc) (fun W h => HQr.out W h.2) Tryz.underlying54 rfl (Hi.out) ?_
   refine tkE (i := 1) rfl ?_
   refine tkE (i := 2) rfl ?_
   refine tkE (i := 3) rfl ?_
   refine tkE (i := 5) rfl ?_
   refine tkE (i := 6) rfl ?_
   refine tkE (i := 7) rfl ?_
   refine tkE (i := 8) rfl ?_
   refine rdE (i := 4) rfl (fun K hK => ?_)
   go_simp
   (go_at_call 91; refine (H91.out _ hHeld.2).mono ?_; rintro e w4 ⟨rfl, hb4⟩)
   go_wp2_with fail
   refine onE hK (HS.out _ (kQ.out _ _ hHeld.2 hb4)) (fun hHeld => ?_)
   clear hK K
   have hZ4 := hZd.below hb4 hZd.lt
   refine rdE (i := 9) rfl (fun K hK => ?_)
   go_simp
   (go_at_call 114; refine (H114.out _ hHeld.2).mono ?_; rintro e w9 ⟨⟨v9, rfl, hv9, hfr⟩, hb9⟩; obtain ⟨hx9, A9, c9, rfl, hr9⟩ := hv9)
   go_wp2_with fail
   refine onE hK (HS.out _ (kQ.out _ _ hHeld.2 hb9)) (fun hHeld => ?_)
   clear hK K
   have hZ9 := hZ4.below hb9 hZ4.lt
   refine rdE (i := 10) rfl (fun K hK => ?_)
   refine step_store rfl 54 _ _ rfl (w.heap.size + 2) 0 ta.toArray rfl rfl (hZ9.there _ (by rw [Hs2.out]; exact Nat.le_refl _)) Hi2.out Hone.out ?_
   have hQ9 := HQs.out _ ta hHeld.2
   refine onE hK (HS.out _ hQ9) (fun hHeld => ?_)
   clear hK K
   refine tkE (i := 11) rfl ?_
   refine tkE (i := 12) rfl ?_
   refine wpAnyH_done (by kernel_rfl) ?_ _
   go_wp2_with fail
   have hfill : Bk (w9.setCells (w.heap.size + 2) 0 ta) (w.heap.size + 2) 54 ta.toArray := by simpa using hZ9.fill ta.toArray (by rw [Hs2.out]; rfl)
   refine bodyPost_ret (results_cell2t rfl _ _ (w.heap.size + 2) 54 ta.toArray _ rfl hfill Tryz.underlying54 rfl Hi2.out) rfl ?_
   have hrd : RdC w9 A9 (restR l p) := RdC.of_slk ⟨hx9, A9, c9, rfl, hr9⟩
   have hne : ∀ a, A9 = some a → a.block ≠ w.heap.size + 2 := fun a e => by
    subst e
    have h1 := hfr a.block rfl
    have h2 := hZ4.lt
    omega
   rw [Hr.out]
   refine ⟨⟨A9, ⟨c9, ?_⟩, rdc_sets hrd hne _⟩, HQb.out _ hQ9⟩
   dsimp only
   rw [HlenR.out, Hta.out]
   rfl
  ·
   have hz : (ccIdx t l p != 0) = true := by simpa using hE
   have hr : splitP t l p = (Tms.zero, [], ccIdx t l p) := by unfold splitP; rw [if_pos hE]
   have Hr := Lib.hid hr
   have Hi2 := Lib.hid (info54s Tms.zero.cells.toArray.size (Tms.size36 _ Tms.zero_ok))
   have Hone := Lib.hid (Tms.oneCell Tms.zero)
   have Hth : Hid (W1.there (w.heap.size + 2) 0 Tms.zero.cells.toArray.size) := hZ1.there _ (by rw [Tms.size36 _ Tms.zero_ok]; exact Nat.le_refl _)
   clear hE hr hnc
   go_wp2_with (refine wpList_store_mid rfl 54 (.tmp 6) (.tmp 21) rfl (w.heap.size + 2) 0 Tms.zero.cells.toArray rfl rfl Hth.out Hi2.out Hone.out ?_)
   refine bodyPost_ret (results_cell2t rfl _ _ (w.heap.size + 2) 54 Tms.zero.cells.toArray _ rfl (hZ1.fill Tms.zero.cells.toArray rfl) Tryz.underlying54 rfl Hi2.out) rfl ?_
   rw [Hr.out]
   exact ⟨by first | exact ⟨none, 0, rfl, fun k hk => absurd hk (by simp)⟩ | exact ⟨none, ⟨0, rfl⟩, fun k hk => absurd hk (by simp)⟩, HQb.out _ (HQs.out _ _ hQ1)⟩
end Go.Proofs.YtmagppkclnebjaaGreatDoor
