/- The heap: All. -/
import Derived.Test.YtijlebhoapdfnaaGreatHeapF
import Derived.Shelf.SlGeneric
import Derived.Ground.SlgmProg
import Derived.Shelf.SortM.Plain
import Derived.Shelf.SortM.SortNone
import Derived.Test.YtijlebhoapdfnaaGreatProg
/-
 DERIVED: THE SHELF's CONTRACTS AT THIS DUMP, IN PLAIN WORDS (tools/lay-plain.mjs out of 'YtijlebhoapdfnaaGreatShelfSortSoft.lean', which tools/lay-shelf.mjs wrote): THE SAME DECLARATIONS UNDER THE SAME NAMES: 'import', 'namespace', 'open', 'def', 'theorem' AND NOTHING ELSE: no command of the shelf's: FOR A HAND-IN. Each laying: the table of numbers ('.._ren') and one theorem, a field a fact of the dump's own or the kernel's comparison; each contract: ONE APPLICATION.
-/
namespace Go.Proofs
open Go.Shelf
def Tryz.laysSort_ren : Go.Shelf.Ren := ⟨fun | 5 => 151 | 8 => 188 | 7 => 187 | 19 => 217 | 20 => 218 | 10 => 208 | 11 => 209 | 12 => 210 | 13 => 211 | 14 => 212 | 15 => 213 | 16 => 214 | 17 => 215 | 18 => 216 | 30 => 232 | 31 => 233 | 32 => 234 | 33 => 235 | 34 => 236 | 35 => 191 | 40 => 244 | n => n, fun | 23 => 95 | 25 => 2 | 3 => 3 | 32 => 183 | 22 => 95 | 0 => 0 | 44 => 242 | 46 => 200 | 4 => 4 | 36 => 235 | 35 => 234 | 41 => 109 | 5 => 5 | 9 => 9 | 53 => 252 | 57 => 256 | 63 => 264 | 64 => 265 | n => n, fun | n => n⟩
theorem Tryz.laysSort : Go.Proofs.SlLaysM.n5 Tryz.prog Tryz.laysSort_ren := {
 mixed := by kernel_rfl
 f5 := ⟨Tryz.f151.name, by decide, Tryz.func151.trans (congrArg some (by kernel_rfl))⟩
 f7 := ⟨Tryz.f187.name, by decide, Tryz.func187.trans (congrArg some (by kernel_rfl))⟩
 f8 := Tryz.func188.trans (congrArg some (by kernel_rfl))
 f10 := ⟨Tryz.f208.name, by decide, Tryz.func208.trans (congrArg some (by kernel_rfl))⟩
 f11 := ⟨Tryz.f209.name, by decide, Tryz.func209.trans (congrArg some (by kernel_rfl))⟩
 f12 := ⟨Tryz.f210.name, by decide, Tryz.func210.trans (congrArg some (by kernel_rfl))⟩
 f13 := ⟨Tryz.f211.name, by decide, Tryz.func211.trans (congrArg some (by kernel_rfl))⟩
 f14 := ⟨Tryz.f212.name, by decide, Tryz.func212.trans (congrArg some (by kernel_rfl))⟩
 f15 := ⟨Tryz.f213.name, by decide, Tryz.func213.trans (congrArg some (by kernel_rfl))⟩
 f16 := ⟨Tryz.f214.name, by decide, Tryz.func214.trans (congrArg some (by kernel_rfl))⟩
 f17 := ⟨Tryz.f215.name, by decide, Tryz.func215.trans (congrArg some (by kernel_rfl))⟩
 f18 := ⟨Tryz.f216.name, by decide, Tryz.func216.trans (congrArg some (by kernel_rfl))⟩
 f19 := Tryz.func217.trans (congrArg some (by kernel_rfl))
 f20 := Tryz.func218.trans (congrArg some (by kernel_rfl))
 f30 := ⟨Tryz.f232.name, by decide, Tryz.func232.trans (congrArg some (by kernel_rfl))⟩
 f31 := Tryz.func233.trans (congrArg some (by kernel_rfl))
 f32 := Tryz.func234.trans (congrArg some (by kernel_rfl))
 f33 := ⟨Tryz.f235.name, by decide, Tryz.func235.trans (congrArg some (by kernel_rfl))⟩
 f34 := ⟨Tryz.f236.name, by decide, Tryz.func236.trans (congrArg some (by kernel_rfl))⟩
 f35 := ⟨Tryz.f191.name, by decide, Tryz.func191.trans (congrArg some (by kernel_rfl))⟩
 f40 := ⟨Tryz.f244.name, by decide, Tryz.func244.trans (congrArg some (by kernel_rfl))⟩
 t0 := Tryz.underlying0
 a0 := Tryz.isAgg0
 z0 := Tryz.sizeOf0
 v0 := Tryz.zeroValue0
 t3 := Tryz.underlying3
 a3 := Tryz.isAgg3
 z3 := Tryz.sizeOf3
 v3 := Tryz.zeroValue3
 t4 := Tryz.underlying4
 a4 := Tryz.isAgg4
 z4 := Tryz.sizeOf4
 v4 := Tryz.zeroValue4
 t5 := Tryz.underlying5
 a5 := Tryz.isAgg5
 z5 := Tryz.sizeOf5
 v5 := Tryz.zeroValue5
 t9 := Tryz.underlying9
 a9 := Tryz.isAgg9
 z9 := Tryz.sizeOf9
 v9 := Tryz.zeroValue9
 t22 := Tryz.underlying95
 a22 := Tryz.isAgg95
 z22 := Tryz.sizeOf95
 v22 := Tryz.zeroValue95
 t23 := Tryz.underlying95
 a23 := Tryz.isAgg95
 z23 := Tryz.sizeOf95
 v23 := Tryz.zeroValue95
 t25 := Tryz.underlying2
 a25 := Tryz.isAgg2
 z25 := Tryz.sizeOf2
 v25 := Tryz.zeroValue2
 t32 := Tryz.underlying183
 a32 := Tryz.isAgg183
 z32 := Tryz.sizeOf183
 v32 := Tryz.zeroValue183
 t35 := Tryz.underlying234
 a35 := Tryz.isAgg234
 z35 := Tryz.sizeOf234
 v35 := Tryz.zeroValue234
 t36 := Tryz.underlying235
 a36 := Tryz.isAgg235
 z36 := Tryz.sizeOf235
 v36 := Tryz.zeroValue235
 t41 := Tryz.underlying109
 a41 := Tryz.isAgg109
 z41 := Tryz.sizeOf109
 v41 := Tryz.zeroValue109
 t44 := Tryz.underlying242
 a44 := Tryz.isAgg242
 z44 := Tryz.sizeOf242
 v44 := Tryz.zeroValue242
 t46 := Tryz.underlying200
 a46 := Tryz.isAgg200
 z46 := Tryz.sizeOf200
 v46 := Tryz.zeroValue200
 t53 := Tryz.underlying252
 a53 := Tryz.isAgg252
 z53 := Tryz.sizeOf252
 v53 := Tryz.zeroValue252
 t57 := Tryz.underlying256
 a57 := Tryz.isAgg256
 z57 := Tryz.sizeOf256
 v57 := Tryz.zeroValue256
 t63 := Tryz.underlying264
 a63 := Tryz.isAgg264
 z63 := Tryz.sizeOf264
 v63 := Tryz.zeroValue264
 t64 := Tryz.underlying265
 a64 := Tryz.isAgg265
 z64 := Tryz.sizeOf265
 v64 := Tryz.zeroValue265 }
end Go.Proofs
/- A number is pushed on a row of one's own. -/
namespace Go.Proofs.YtijlebhoapdfnaaGreat
set_option linter.unusedSimpArgs false
open Go.RowKit
set_option linter.unusedVariables false
theorem wpList_push_n {ops : Array Oper} {rest : List Oper} {o : Oper} {a : Act} {W : World} {Q : Exit → Act → World → Prop} (hg : o.guard = none) (s x : Operand)
  (ho : o.op = .call { callee := .builtin .append, args := #[s, x], argTypes := #[95, 95] }) (v : Value) (xs : List Int) (hs : a.eval s = v) (h : slIs W 2 1 intCell v xs) (n : Int) (g : Nat) (hx : a.eval x = .slice (some ⟨g, 0, none⟩) 1 1) (hc : W.cell? ⟨g, 0, none⟩ = some (.int .i64 n)) (hlen : xs.length + 1 ≤ 17592186044416)
  (k : ∀ va vc w', slIs w' 2 1 intCell (.slice va (xs.length + 1) vc) (xs ++ [n]) → W.grownBy w' v.ownBlock → ((Value.slice va (xs.length + 1) vc).ownBlock = v.ownBlock ∨ (Value.slice va (xs.length + 1) vc).ownBlock = some W.heap.size) → wpList Tryz.prog ops Q rest (a.put o.dst (.slice va (xs.length + 1) vc)) w') :
  wpList Tryz.prog ops Q (o :: rest) a W := by
 obtain ⟨i0, hi, iz0, iz1, iz2⟩ := info_parts info_int64
 refine wpList_append_own_at W hg s x 95 ho 0 2 i0 _ 1 8 Tryz.underlying95 hi iz0 iz1 iz2 rfl (by decide) v xs.length (xs.flatMap intCell) hs h ⟨g, 0, none⟩ 1 1 (intCell n) hx rfl ?_ ?_ ?_ ?_ (Nat.zero_le _) ?_
 ·
  intro j u hu
  have hadd : (⟨g, 0, none⟩ : Addr).add j = ⟨g, j, none⟩ := by unfold Addr.add; split <;> simp_all
  rw [hadd]
  match j, hu with
  | 0, hu => simp [intCell] at hu; rw [hc, hu]
  | j + 1, hu => simp [intCell] at hu
 ·
  intro u hu; simp [intCell] at hu; subst hu; rfl
 ·
  exact Nat.le_trans hlen (by decide)
 ·
  omega
 ·
  intro v' w' hown hgr hnil hat
  obtain ⟨va, vc, rfl⟩ := ownsRow_form hown
  refine k va vc w' ⟨flatMap_length intCell 1 (fun _ => rfl) _, ?_⟩ hgr hat
  have := hown.2
  rw [List.flatMap_append, List.length_append]
  exact this
/-- A row of numbers of one's own, in a world that is as `w` was below. -/
def RowN (w : World) (W : World) (v : Value) (xs : List Int) : Prop := slIs W 2 1 intCell v xs ∧ (∀ g, v.ownBlock = some g → w.heap.size ≤ g) ∧ Below w.heap.size w W
theorem RowN.later {w W W' : World} {v : Value} {xs : List Int} (h : RowN w W v xs) (hb : Below W.heap.size W W') : RowN w W' v xs := ⟨h.1.of_block fun g hg => hb.block g (h.1.lt g hg), h.2.1, Below.next h.2.2 hb h.2.2.size⟩
end Go.Proofs.YtijlebhoapdfnaaGreat
set_option maxRecDepth 100000
set_option maxHeartbeats 800000
namespace Go.Proofs.YtijlebhoapdfnaaGreat
set_option linter.unusedSimpArgs false
open Go.RowKit
set_option linter.unusedVariables false
/-- Nothing of the row's block is elsewhere than before the sort; the rest lies as it lay. -/
theorem sort_heap (w : World) (n blk : Nat) (zs : List Int) (os : Array Obj) (k : Nat) (hk : k < w.heap.size) (hkb : k ≠ blk) : (Go.Sort.grow (Go.Sort.putRow (Value.int .i64) (Go.Sort.ahead w n) blk 0 zs.toArray) os).heap[k]? = w.heap[k]? := by
 unfold Go.Sort.grow Go.Sort.putRow Go.Sort.mapBlock Go.Sort.ahead
 simp only
 rw [Array.getElem?_append_left (by simpa using hk), Array.getElem?_modify, if_neg (fun e => hkb e.symm)]
theorem sort_own (w : World) (n blk : Nat) (zs : List Int) (os : Array Obj) (cur : Array Value) (fr : Nat × Nat) (h : w.heap[blk]? = some (.cells cur 2 fr)) : (Go.Sort.grow (Go.Sort.putRow (Value.int .i64) (Go.Sort.ahead w n) blk 0 zs.toArray) os).heap[blk]? = some (.cells (Go.Sort.putCells (Value.int .i64) 0 zs.toArray cur) 2 fr) := by
 unfold Go.Sort.grow Go.Sort.putRow Go.Sort.mapBlock Go.Sort.ahead
 simp only
 have hlt := blockLt h
 rw [Array.getElem?_append_left (by simpa using hlt), Array.getElem?_modify, if_pos rfl, h]
 rfl
theorem ints_flat (zs : List Int) : zs.flatMap intCell = zs.map (Value.int .i64) := by
 induction zs with
 | nil => rfl
 | cons z r ih => rw [List.flatMap_cons, ih]; rfl
def sorted (l : List Int) : List Int := l.mergeSort fun x y => decide (x ≤ y)
/-- slices.Sort at a row of numbers of one's own. -/
theorem sort_ints (w : World) (v : Value) (l : List Int) (h : slIs w 2 1 intCell v l) (hl : l.length ≤ 1000000000000) :
  Calls Tryz.prog 151 #[v] w fun e w' => e = .returned (.tuple #[]) ∧ slIs w' 2 1 intCell v (sorted l) ∧ Outside v.ownBlock.toList w w' := by
 have hlen : (sorted l).length = l.length := by simp [sorted]
 by_cases h0 : l = []
 ·
  subst h0
  obtain ⟨a, c, rfl⟩ := h.form
  have := AnyM.slices_Sort_int_none Tryz.laysSort a c w
  change Calls Tryz.prog 151 _ _ _ at this
  refine this.mono fun e w' ⟨e1, e2⟩ => ⟨e1, ?_, ?_⟩
  ·
   rw [e2]; simpa [sorted] using h
  ·
   rw [e2]; exact Outside.refl _ _
 ·
  rcases h.2 with ⟨h1, h2⟩ | ⟨g, cap, cur, rfl, hb, hg, h1, h2, h3, h4⟩
  ·
   exact absurd (List.length_eq_zero_iff.1 h2) h0
  ·
   have hcell : ∀ j, j < l.length → cur[j]? = some (.int .i64 (l[j]!)) := fun j hj => by
    have := congrArg (fun l => l[j]?) h4
    simp only [Nat.mul_one] at this
    rw [List.getElem?_take, if_pos hj, Array.getElem?_toList, ints_flat, List.getElem?_map] at this
    rw [this, List.getElem!_eq_getElem?_getD, List.getElem?_eq_getElem hj]; rfl
   have hH : Go.Sort.Holds (Value.int .i64) w g 0 l.toArray := fun j hj => by
    have hj' : j < l.length := by simpa using hj
    refine ⟨?_, ?_⟩
    ·
     rw [cell_of_row _ g (0 + j) cur 2 (0, 0) hg, Nat.zero_add, hcell j hj']
     simp
    ·
     simp [World.frozen?, hg]
   have := AnyM.slices_Sort_int Tryz.laysSort g 0 cap l w hH (blockLt hg) (by omega)
   change Calls Tryz.prog 151 _ _ _ at this
   refine this.mono fun e w' ⟨e1, n, os, e2⟩ => ⟨e1, ?_, ?_⟩
   ·
    rw [e2, ← hlen]
    refine ⟨flatMap_length intCell 1 (fun _ => rfl) _, .inr ⟨g, cap, _, rfl, hb, sort_own w n g (sorted l) os cur (0, 0) hg, by omega, h2, by simpa [Go.Sort.putCells] using h3, ?_⟩⟩
    apply List.ext_getElem?
    intro j
    rw [List.getElem?_take, ints_flat, List.getElem?_map]
    by_cases hj : j < (sorted l).length
    ·
     rw [if_pos (by omega), Array.getElem?_toList]
     have hjc : j < cur.size := by omega
     simp [Go.Sort.putCells, hj, hjc]
    ·
     rw [if_neg (by omega), List.getElem?_eq_none (by omega)]; rfl
   ·
    rw [e2]
    refine ⟨rfl, rfl, rfl, ?_, fun k hk hn => ?_⟩
    ·
     simp [Go.Sort.grow, Go.Sort.putRow, Go.Sort.mapBlock, Go.Sort.ahead]
    ·
     exact sort_heap w n g (sorted l) os k hk (fun e => hn (by subst e; simp [Value.ownBlock]))
/-- A rising row, in whatever order it came, is sorted so. -/
theorem sorted_of {l m : List Int} (hp : l.Perm m) (hm : m.Pairwise (· < ·)) : sorted l = m := by
 have h1 : (sorted l).Perm m := (List.mergeSort_perm _ _).trans hp
 have h2 : (sorted l).Pairwise (fun a b => decide (a ≤ b) = true) := List.pairwise_mergeSort (fun a b c h1 h2 => by simp at *; omega) (fun a b => by simp; omega) l
 exact h1.eq_of_pairwise (fun a b _ _ h1 h2 => by simp at *; omega) h2 (hm.imp fun h => by simp; omega)
def AllRel (w : World) (ma : Nat) (obs : List (Int × Nat)) (g : Nat) (out : Value) (wr : World) : Prop :=
 ∃ left done xs, g = left.length ∧ iterIs wr Tryz.prog 2 ekI exP ma w.heap.size obs left ∧ ((done ++ left).Perm obs ∧ xs = done.map (·.1)) ∧ slIs wr 2 1 intCell out xs ∧ (∀ b, out.ownBlock = some b → w.heap.size < b) ∧ Below w.heap.size w wr
theorem heap_all (w : World) (h : Nat) {H : HeapM} {ε : Int → Int} {F : List Nat} (hh : HeapIs w h H ε F) (hsmall : H.objs.length ≤ 1000000000) (hasc : (H.objs.map (·.1)).Pairwise (· < ·)) :
  Calls Tryz.prog 69 #[.pointer (some ⟨h, 0, none⟩)] w (RefsPost (H.objs.map (·.1)) w) := by
 obtain ⟨ma, obs, M⟩ := hh.mapAt
 have hlen : obs.length ≤ 1000000000 := by have := congrArg List.length M.keys; simp at this; omega
 rw [← M.keys] at hasc ⊢
 have c0 := M.c0
 have hmal := M.hm.lt
 have HM := Lib.hid M.hm
 have HC := Lib.hid (And.intro hlen hasc)
 clear hlen hasc M hh hsmall
 go_enter Tryz.func69, Tryz.ntmps69
 go_wp2_with (at_range; refine wpList_range_is rfl _ 150 rfl 154 Tryz.underlying150 rfl HM.out ?_; intro w1 i1 i2 i3)
 have hb1 : Below w.heap.size w w1 := ⟨i2.os, i2.tape, i2.output, i2.size, fun b hb => i2.block b hb (by simp)⟩
 have hst : AllRel w ma obs obs.length (.slice none 0 0) w1 := ⟨obs, [], [], rfl, i1, ⟨List.Perm.refl _, rfl⟩, World.ownsRow_nil _ _ _ _, by simp [Value.ownBlock], hb1⟩
 have HST := Lib.hid hst
 clear hst i1 i2 i3 hb1
 go_frame
 go_loopg [3] obs.length (fun g out wr => AllRel w ma obs g out wr)
 case atStart => exact HST.out
 case round =>
  clear HST
  obtain ⟨left, done, xs, rfl, d1, d2, d3, d4, d5⟩ := hrel
  obtain ⟨oa, oc, rfl⟩ := d3.form
  have D1 := Lib.hid d1
  have HX := Lib.hid (And.intro d2 (And.intro d3 (And.intro d4 d5)))
  clear d1 d2 d3 d4 d5
  go_wp2_with (at_next; refine wpList_next_is rfl _ rfl rfl D1.out ?_ ?_)
  ·
   intro hnil
   have HN := Lib.hid hnil
   have S := Lib.hid (sort_ints wr _ _ HX.out.2.1 (by
    have := HX.out.1.1.length_eq; have := HC.out.1; rw [HX.out.1.2]; simp at *; omega))
   clear hnil
   go_wp2_with fail
   refine S.out.mono ?_
   rintro e w2 ⟨rfl, s1, s2⟩
   have S1 := Lib.hid (And.intro s1 s2)
   clear s1 s2
   go_wp2
   go_ret
   obtain ⟨⟨x1, x0⟩, x2, x3, x4⟩ := HX.out
   obtain ⟨s1, s2⟩ := S1.out
   rw [HN.out, List.append_nil] at x1
   have hq : sorted xs = obs.map (·.1) := by rw [x0]; exact sorted_of (x1.map _) HC.out.2
   rw [hq] at s1
   refine ⟨_, rfl, s1, fun b hb => Nat.le_of_lt (x3 b hb), Outside.below_of x4 s2 (fun b hb => by have := x3 b (by simpa using hb); omega) x4.size⟩
  ·
   intro pk px left' w2 hp hi ho he
   obtain ⟨⟨x1, x0⟩, x2, x3, x4⟩ := HX.out
   have hB2 : Below w.heap.size w w2 := ⟨ho.2.os.trans x4.os, ho.2.tape.trans x4.tape, ho.2.output.trans x4.output, by have := x4.size; have := ho.1; omega, fun b hb => by
    rw [ho.2.block b (by have := x4.size; omega) (by simp; omega)]; exact x4.block b hb⟩
   have hS2 : slIs w2 2 1 intCell (.slice oa xs.length oc) xs := x2.of_block fun g hg => ho.2.block g (x2.lt g hg) (by have := x3 g hg; simp; omega)
   have hlen' : left.length = left'.length + 1 := by have := hp.length_eq; simpa using this
   have hpm : ((done ++ [(pk, px)]) ++ left').Perm obs := by
    refine List.Perm.trans ?_ x1
    rw [List.append_assoc]; exact List.Perm.append_left _ hp.symm
   have hdl : xs.length + 1 ≤ 17592186044416 := by
    have := hpm.length_eq; have := HC.out.1; rw [x0]; simp at *; omega
   have hri := hi.lt
   have HY := Lib.hid (And.intro hlen' (And.intro hpm (And.intro hi (And.intro hB2 (And.intro hS2 (And.intro hdl (And.intro x3 (And.intro hri x0))))))))
   clear hlen' hpm hi hB2 hS2 hdl x1 x2 x3 x4 ho hp hri x0
   simp only [ekI, exP] at he
   go_wp2_with (at_builtin; refine wpList_push_n rfl _ _ rfl _ _ rfl (HY.out.2.2.2.2.1.alloc _) _ _ rfl (cell_of_row _ _ _ _ _ _ (heapAllocNew _ _)) HY.out.2.2.2.2.2.1 ?_)
   intro va' vc' w3 h1 h2 h3
   have H3 := Lib.hid (And.intro h1 (And.intro h2 h3))
   clear h1 h2 h3 he
   go_wp2
   obtain ⟨e1, e2, e3, e4, e5, e6, e7, e8, e9⟩ := HY.out
   obtain ⟨h1, h2, h3⟩ := H3.out
   go_roundg left'.length
   case rel =>
    have hw3 : ∀ b, b < w2.heap.size → b ∉ (Value.slice oa xs.length oc).ownBlock.toList → w3.heap[b]? = w2.heap[b]? := fun b hb hn => by
     rw [h2.block b (by rw [World.size_alloc]; omega) (fun e => hn (by rw [← e]; simp)), Below.heap_alloc _ _ _ hb]
    refine ⟨left', done ++ [(pk, px)], xs ++ [pk], rfl, e3.of_block (hw3 _ e3.is.lt (fun hm => ?_)) (hw3 _ e8 (fun hm => ?_)), ⟨e2, by rw [e9]; simp⟩, h1, fun b hb => ?_, ?_⟩
    ·
     have := e7 _ (by simpa using hm); omega
    ·
     have := e7 _ (by simpa using hm); omega
    ·
     rcases h3 with h3 | h3
     ·
      exact e7 b (by rw [← h3]; exact hb)
     ·
      rw [h3] at hb; have := Option.some.inj hb; omega
    ·
     refine ⟨h2.os.trans e4.os, h2.tape.trans e4.tape, h2.output.trans e4.output, by have := h2.size; rw [World.size_alloc] at this; have := e4.size; omega, fun b hb => ?_⟩
     rw [hw3 b (by have := e4.size; omega) (fun hm => by have := e7 _ (by simpa using hm); omega)]; exact e4.block b hb
   all_goals omega
end Go.Proofs.YtijlebhoapdfnaaGreat
