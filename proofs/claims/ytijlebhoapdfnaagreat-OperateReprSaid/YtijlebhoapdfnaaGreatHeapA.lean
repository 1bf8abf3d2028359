import Derived.StillTailTactics
import Derived.Deep.RegionWith
import Derived.Test.YtijlebhoapdfnaaGreatDictC
import Derived.Test.YtijlebhoapdfnaaGreatVal
import Derived.Test.YtijlebhoapdfnaaGreatDictB
import Derived.Test.YtijlebhoapdfnaaGreatDictA
/- The heap: what lies in memory; of; what is told of an object. -/
/- The heap: counting. -/
namespace Go.Proofs.YtijlebhoapdfnaaGreat
set_option linter.unusedSimpArgs false
open Go.RowKit
set_option linter.unusedVariables false
def exI (n : Int) : Value := .int .i64 n
def cntL (r : List (Int × Int)) (n : Int) : Int := (getL r n).getD 0
def hold1 (d : Int) (r : List (Int × Int)) (v : V) : List (Int × Int) := if v.kind = 4 then putL r v.n (wrap64 (cntL r v.n + d)) else r
def holdL (d : Int) (l : List V) (r : List (Int × Int)) : List (Int × Int) := l.foldl (hold1 d) r
theorem heap_hold (w : World) (h mr : Nat) (d : Int) (sv : Value) (l : List V) (r : List (Int × Int)) (h1 : w.cell? ⟨h, 1, none⟩ = some (.map (some mr))) (hm : mapIs w Tryz.prog 2 ekI exI mr r) (hs : SeesV w sv l) :
  Calls Tryz.prog 130 #[.pointer (some ⟨h, 0, none⟩), .int .i64 d, sv] w fun e w' => (∃ v, e = .returned v) ∧ mapIs w' Tryz.prog 2 ekI exI mr (holdL d l r) ∧ Outside [mr] w w' := by
 obtain ⟨a, cap, rfl, hcap, hmx, hcs⟩ := hs
 have hne := hm.ne_cell h1
 have hml : maxLen ≤ 9223372036854775807 := by decide
 go_enter Tryz.func130, Tryz.ntmps130
 go_wp2
 have HC := Lib.hid hcs
 clear hcs
 go_loopw [10] (fun i wr => ∃ k : Nat, k ≤ l.length ∧ i = .int .i64 k ∧ mapIs wr Tryz.prog 2 ekI exI mr (holdL d (l.take k) r) ∧ Outside [mr] w wr) (fun i _ => l.length - (intOf i).toNat)
 case atStart => exact ⟨0, by omega, rfl, hm, Outside.refl _ _⟩
 case round =>
  obtain ⟨k, hk, rfl, hmr, ho⟩ := hrel
  have h1r := ho.cell h1 (by simpa using hne)
  by_cases hlt : k < l.length
  ·
   obtain ⟨g, o, rfl, hcc⟩ : ∃ g o, a = some ⟨g, o, none⟩ ∧ ∀ i v, l[i]? = some v → w.cell? ⟨g, o + i * 3, none⟩ = some (.int .i64 v.kind) ∧ w.cell? ⟨g, o + i * 3 + 1, none⟩ = some (.int .i64 v.n) ∧ w.cell? ⟨g, o + i * 3 + 2, none⟩ = some (.string v.s) := by
    rcases HC.out with h | h
    ·
     subst h; simp at hlt
    ·
     exact h
   obtain ⟨v, hv⟩ : ∃ v, l[k]? = some v := ⟨l[k], by simp [hlt]⟩
   obtain ⟨d0, d1, d2⟩ := hcc k v hv
   have e0 := ho.cell d0 (by simpa using hm.ne_cell d0)
   have e1 := ho.cell d1 (by simpa using hm.ne_cell d1)
   have e2 := ho.cell d2 (by simpa using hm.ne_cell d2)
   clear hcc d0 d1 d2
   have hsz := ho.size
   have hmlt := hmr.lt
   obtain ⟨kl, hkl⟩ := keyOfI v.hn
   have hz : ∀ W, (zeroValue 3).run Tryz.prog W = .ok (.int .i64 0) W := fun W => Tryz.zeroValue3 W
   have hlk : ∀ o, (Instr.lookup 151 (.map (some mr)) (.int .i64 v.n) false).run Tryz.prog (wr.alloc o).drew = .ok (.int .i64 (cntL (holdL d (l.take k) r) v.n)) (wr.alloc o).drew := fun o => by
    have := ((hmr.alloc o).drewN 1).look ekI_inj keyI Tryz.underlying151 (hz _) hkl false
    simp only [cntL]
    cases hg : getL (holdL d (l.take k) r) v.n with
    | none => rw [hg] at this; exact this
    | some x => rw [hg] at this; exact this
   have hup : ∀ o, ∃ w', (Instr.mapUpdate 151 (.map (some mr)) (.int .i64 v.n) (.int .i64 (wrap64 (cntL (holdL d (l.take k) r) v.n + d)))).run Tryz.prog (wr.alloc o).drew = .ok () w' ∧ mapIs w' Tryz.prog 2 ekI exI mr (putL (holdL d (l.take k) r) v.n (wrap64 (cntL (holdL d (l.take k) r) v.n + d))) ∧ onlyAt (wr.alloc o).drew w' mr := fun o =>
    ((hmr.alloc o).drewN 1).update ekI_inj keyI Tryz.underlying151 hkl _
   have hst : holdL d (l.take (k + 1)) r = hold1 d (holdL d (l.take k) r) v := by
    rw [List.take_add_one, hv, holdL, holdL, List.foldl_append]; rfl
   rw [hold1] at hst
   have HM := Lib.hid hmr
   generalize holdL d (l.take k) r = rk at hlk hup hst HM
   obtain ⟨c, hcd⟩ : ∃ c, cntL rk v.n = c := ⟨_, rfl⟩
   rw [hcd] at hup hlk hst
   have HS := Lib.hid hst
   obtain ⟨f, hf⟩ : ∃ f : Obj → World, ∀ o, (Instr.mapUpdate 151 (.map (some mr)) (.int .i64 v.n) (.int .i64 (wrap64 (c + d)))).run Tryz.prog (wr.alloc o).drew = .ok () (f o) ∧ mapIs (f o) Tryz.prog 2 ekI exI mr (putL rk v.n (wrap64 (c + d))) ∧ onlyAt (wr.alloc o).drew (f o) mr :=
    ⟨fun o => (hup o).choose, fun o => (hup o).choose_spec⟩
   have hrun := fun o => (hf o).1
   have HF := Lib.hid hf
   have hhlt := World.block_lt_of_cell? wr _ h1r
   clear hz hkl hcd hm hmr hst hf hup
   go_wp2
   ·
    go_region
    go_wp2
    have hk4 : v.kind = 4 := by simp_all
    have hf := HF.out (.cells #[.int .i64 v.kind, .int .i64 v.n, .string v.s] 24)
    have hst := HS.out
    rw [if_pos hk4] at hst
    refine ⟨⟨k + 1, by omega, ?_, ?_, ?_⟩, ?_⟩
    ·
     rfl
    ·
     rw [hst]; exact hf.2.1
    ·
     exact ((ho.alloc _).drew).grown hf.2.2.2 (fun b hb => by simp at hb; subst hb; exact .inl (by simp))
    ·
     simp [intOf]; omega
   ·
    have hk4 : ¬ v.kind = 4 := by simp_all
    have hst := HS.out
    rw [if_neg hk4] at hst
    refine ⟨⟨k + 1, by omega, ?_, ?_, ?_⟩, ?_⟩
    ·
     rfl
    ·
     rw [hst]; exact HM.out.alloc _
    ·
     exact ho.alloc _
    ·
     simp [intOf]; omega
  ·
   have : k = l.length := by omega
   subst this
   go_wp2
   go_returns
   rw [List.take_length] at hmr
   exact ⟨⟨_, rfl⟩, hmr, ho⟩
end Go.Proofs.YtijlebhoapdfnaaGreat
/- The heap, plainly: objects by rising numbers. -/
namespace Go.Proofs.YtijlebhoapdfnaaGreat
set_option linter.unusedSimpArgs false
open Go.RowKit
set_option linter.unusedVariables false
/-- An object. -/
structure ObjM where
 kind : Int
 name : ByteArray
 num : Int
 items : List V
 pairs : List (V × V)
 hk : okI kind
 hn : okI num
 hs : name.size ≤ maxLen
/-- A heap: its objects, each behind its number; the last number that was given. -/
structure HeapM where
 objs : List (Int × ObjM)
 last : Int
def HeapM.of (H : HeapM) (v : V) : Option ObjM := if v.kind = 4 then getL H.objs v.n else none
def ObjM.vals (o : ObjM) : List V := o.items ++ o.pairs.map (·.2)
def HeapM.refs (H : HeapM) (o : ObjM) : List V := o.vals.filter fun x => (H.of x).isSome
def allVals (l : List (Int × ObjM)) : List V := l.flatMap (·.2.vals)
def isRef (n : Int) (v : V) : Bool := decide (v.kind = 4) && decide (v.n = n)
/-- How often a number is held. -/
def cnt (l : List V) (n : Int) : Int := ((l.filter (isRef n)).length : Int)
theorem cnt_nil (n : Int) : cnt [] n = 0 := rfl
theorem cnt_append (l m : List V) (n : Int) : cnt (l ++ m) n = cnt l n + cnt m n := by simp [cnt, List.filter_append]
theorem cnt_cons (v : V) (l : List V) (n : Int) : cnt (v :: l) n = (if v.kind = 4 ∧ v.n = n then 1 else 0) + cnt l n := by
 unfold cnt
 by_cases h : v.kind = 4 ∧ v.n = n
 ·
  rw [List.filter_cons_of_pos (by simp [isRef, h.1, h.2]), if_pos h]; simp; omega
 ·
  rw [List.filter_cons_of_neg (by simpa [isRef] using h), if_neg h]; simp
theorem cnt_nonneg (l : List V) (n : Int) : 0 ≤ cnt l n := by unfold cnt; omega
theorem cnt_le (l : List V) (n : Int) : cnt l n ≤ l.length := by unfold cnt; have := List.length_filter_le (isRef n) l; omega
theorem cnt_pos {l : List V} {n : Int} : 0 < cnt l n ↔ ∃ v ∈ l, v.kind = 4 ∧ v.n = n := by
 unfold cnt
 constructor
 ·
  intro h
  have : 0 < (l.filter (isRef n)).length := by omega
  obtain ⟨v, hv⟩ := List.exists_mem_of_length_pos this
  have := List.mem_filter.1 hv
  exact ⟨v, this.1, by simpa [isRef] using this.2⟩
 ·
  rintro ⟨v, hv, h1, h2⟩
  have : v ∈ l.filter (isRef n) := List.mem_filter.2 ⟨hv, by simp [isRef, h1, h2]⟩
  have := List.length_pos_of_mem this
  omega
theorem wrap64_add_left (a b : Int) : wrap64 (wrap64 a + b) = wrap64 (a + b) := by
 unfold wrap64; omega
theorem cntL_hold1 {r : List (Int × Int)} {c : Int → Int} (d : Int) (v : V) (h : ∀ n, cntL r n = wrap64 (c n)) (n : Int) : cntL (hold1 d r v) n = wrap64 (c n + if v.kind = 4 ∧ v.n = n then d else 0) := by
 unfold hold1
 by_cases hk : v.kind = 4
 ·
  rw [if_pos hk]
  unfold cntL
  rw [getL_putL]
  by_cases e : n = v.n
  ·
   subst e
   rw [if_pos rfl, if_pos ⟨hk, rfl⟩]
   show wrap64 (cntL r v.n + d) = _
   rw [h, wrap64_add_left]
  ·
   rw [if_neg e, if_neg (fun h => e h.2.symm)]
   show cntL r n = _
   rw [h]; simp
 ·
  rw [if_neg hk, if_neg (fun h => hk h.1), h]; simp
theorem cntL_holdL {r : List (Int × Int)} {c : Int → Int} (d : Int) (l : List V) (h : ∀ n, cntL r n = wrap64 (c n)) (n : Int) : cntL (holdL d l r) n = wrap64 (c n + d * cnt l n) := by
 induction l generalizing r c with
 | nil => simp [holdL, cnt_nil, h]
 | cons v l ih =>
  have := ih (r := hold1 d r v) (c := fun n => c n + if v.kind = 4 ∧ v.n = n then d else 0) (fun n => cntL_hold1 d v h n)
  show cntL (holdL d l (hold1 d r v)) n = _
  rw [this, cnt_cons]
  congr 1
  split
  ·
   rw [Int.mul_add]; omega
  ·
   simp
theorem HeapM.of_some {H : HeapM} {v : V} {o : ObjM} (h : H.of v = some o) : v.kind = 4 ∧ getL H.objs v.n = some o := by
 unfold HeapM.of at h
 by_cases e : v.kind = 4
 ·
  rw [if_pos e] at h; exact ⟨e, h⟩
 ·
  rw [if_neg e] at h; cases h
theorem cnt_setL {l : List (Int × ObjM)} (hn : (l.map (·.1)).Nodup) {n : Int} {o : ObjM} (g : getL l n = some o) (o' : ObjM) (m : Int) :
  cnt (allVals (l.map fun p => if p.1 = n then (n, o') else p)) m = cnt (allVals l) m - cnt o.vals m + cnt o'.vals m := by
 induction l with
 | nil => simp [getL] at g
 | cons p r ih =>
  simp only [List.map_cons, List.nodup_cons] at hn
  have hc : ∀ q : Int × ObjM, ∀ l, allVals (q :: l) = q.2.vals ++ allVals l := fun q l => by simp [allVals]
  rw [List.map_cons, hc, hc, cnt_append, cnt_append]
  by_cases e : p.1 = n
  ·
   have hr : r.map (fun p => if p.1 = n then (n, o') else p) = r := by
    conv => rhs; rw [← List.map_id' r]
    exact List.map_congr_left fun q hq => if_neg fun e' => hn.1 (List.mem_map.2 ⟨q, hq, e'.trans e.symm⟩)
   have : p.2 = o := by simpa [getL, e] using g
   rw [if_pos e, hr, this]
   simp only
   omega
  ·
   have g' : getL r n = some o := by simpa [getL, e] using g
   rw [if_neg e, ih hn.2 g']
   omega
end Go.Proofs.YtijlebhoapdfnaaGreat
namespace Go.Proofs.YtijlebhoapdfnaaGreat
set_option linter.unusedSimpArgs false
open Go.RowKit
set_option linter.unusedVariables false
/-- A row of the heap: a number, its object's block, the object, its blocks. -/
structure HRow where
 n : Int
 b : Nat
 o : ObjM
 F : List Nat
def exP (b : Nat) : Value := .pointer (some ⟨b, 0, none⟩)
def ObjIs (w : World) (p : HRow) : Prop :=
 ∃ (rv : Value) (d : Nat) (G : List Nat), w.heap[p.b]? = some (.cells #[.int .i64 p.o.kind, .string p.o.name, .int .i64 p.o.num, rv, .pointer (some ⟨d, 0, none⟩)] 158) ∧ slIs w 24 3 V.cells rv p.o.items ∧ DictIs w d p.o.pairs G ∧
  p.F = p.b :: rv.ownBlock.toList ++ G ∧ p.F.Nodup
/-- The counts are what is held, and ε besides. -/
def CountsAre (H : HeapM) (ε : Int → Int) (r : List (Int × Int)) : Prop := ∀ n, cntL r n = wrap64 (cnt (allVals H.objs) n + ε n)
def HeapIs (w : World) (h : Nat) (H : HeapM) (ε : Int → Int) (F : List Nat) : Prop :=
 ∃ (ma mr : Nat) (rows : List HRow) (r : List (Int × Int)), w.heap[h]? = some (.cells #[.map (some ma), .map (some mr), .int .i64 H.last] 153) ∧
  mapIs w Tryz.prog 2 ekI exP ma (rows.map fun p => (p.n, p.b)) ∧ mapIs w Tryz.prog 2 ekI exI mr r ∧ (∀ p ∈ rows, ObjIs w p) ∧ H.objs = rows.map (fun p => (p.n, p.o)) ∧
  F = h :: ma :: mr :: rows.flatMap (·.F) ∧ F.Nodup ∧ CountsAre H ε r
theorem ObjIs.of_block {w w' : World} {p : HRow} (h : ObjIs w p) (hb : ∀ b ∈ p.F, w'.heap[b]? = w.heap[b]?) : ObjIs w' p := by
 obtain ⟨rv, d, G, h1, h2, h3, h4, h5⟩ := h
 exact ⟨rv, d, G, (hb _ (by simp [h4])).trans h1, h2.of_block (fun g hg => hb g (by simp [h4, hg])), h3.of_block (fun b hb' => hb b (by simp [h4, hb'])), h4, h5⟩
theorem ObjIs.lt {w : World} {p : HRow} (h : ObjIs w p) : ∀ b ∈ p.F, b < w.heap.size := by
 obtain ⟨rv, d, G, h1, h2, h3, h4, h5⟩ := h
 intro b hb
 rw [h4] at hb
 simp only [List.cons_append, List.mem_cons, List.mem_append, Option.mem_toList] at hb
 rcases hb with rfl | hb | hb
 ·
  exact blockLt h1
 ·
  exact h2.lt b hb
 ·
  exact h3.lt b hb
theorem HeapIs.lt {w : World} {h : Nat} {H : HeapM} {ε : Int → Int} {F : List Nat} (hh : HeapIs w h H ε F) : ∀ b ∈ F, b < w.heap.size := by
 obtain ⟨ma, mr, rows, r, h1, h2, h3, h4, h5, h6, h7, h8⟩ := hh
 intro b hb
 rw [h6] at hb
 simp only [List.mem_cons, List.mem_flatMap] at hb
 rcases hb with rfl | rfl | rfl | ⟨p, hp, hb⟩
 ·
  exact blockLt h1
 ·
  exact h2.lt
 ·
  exact h3.lt
 ·
  exact (h4 p hp).lt b hb
theorem HeapIs.of_block {w w' : World} {h : Nat} {H : HeapM} {ε : Int → Int} {F : List Nat} (hh : HeapIs w h H ε F) (hb : ∀ b ∈ F, w'.heap[b]? = w.heap[b]?) : HeapIs w' h H ε F := by
 obtain ⟨ma, mr, rows, r, h1, h2, h3, h4, h5, h6, h7, h8⟩ := hh
 exact ⟨ma, mr, rows, r, (hb _ (by simp [h6])).trans h1, h2.of_block (hb _ (by simp [h6])), h3.of_block (hb _ (by simp [h6])), fun p hp => (h4 p hp).of_block (fun b hb' => hb b (by rw [h6]; simp only [List.mem_cons, List.mem_flatMap]; exact .inr (.inr (.inr ⟨p, hp, hb'⟩)))), h5, h6, h7, h8⟩
theorem HeapIs.below {w w' : World} {h : Nat} {H : HeapM} {ε : Int → Int} {F : List Nat} (hh : HeapIs w h H ε F) (ho : Below w.heap.size w w') : HeapIs w' h H ε F :=
 hh.of_block fun b hb => ho.block b (hh.lt b hb)
theorem HeapIs.outside {w w' : World} {h : Nat} {H : HeapM} {ε : Int → Int} {F G : List Nat} (hh : HeapIs w h H ε F) (ho : Outside G w w') (hFG : ∀ b ∈ F, b ∉ G) : HeapIs w' h H ε F :=
 hh.of_block fun b hb => ho.block b (hh.lt b hb) (hFG b hb)
theorem Below.next {B : Nat} {a w w1 : World} (h : Below B a w) (k : Below w.heap.size w w1) (hB : B ≤ w.heap.size) : Below B a w1 := h.trans (k.mono hB)
def ofB (obs : List (Int × Nat)) (v : V) : Option Nat := if v.kind = 4 then getL obs v.n else none
theorem getL_map2 {K X Y : Type} [DecidableEq K] {R : Type} (f : R → K) (g : R → X) (g' : R → Y) (rows : List R) (k : K) :
  (getL (rows.map fun p => (f p, g p)) k = none ∧ getL (rows.map fun p => (f p, g' p)) k = none) ∨ ∃ p ∈ rows, f p = k ∧ getL (rows.map fun p => (f p, g p)) k = some (g p) ∧ getL (rows.map fun p => (f p, g' p)) k = some (g' p) := by
 induction rows with
 | nil => exact .inl ⟨rfl, rfl⟩
 | cons p r ih =>
  by_cases e : f p = k
  ·
   exact .inr ⟨p, by simp, e, by simp [getL, e], by simp [getL, e]⟩
  ·
   have e1 : ∀ {Z : Type} (q : R → Z), getL ((p :: r).map fun p => (f p, q p)) k = getL (r.map fun p => (f p, q p)) k := fun q => by simp [getL, e]
   rw [e1, e1]
   rcases ih with h | ⟨q, hq, h⟩
   ·
    exact .inl h
   ·
    exact .inr ⟨q, by simp [hq], h⟩
/-- A value's object, in both. -/
theorem ofB_cases {H : HeapM} {rows : List HRow} (h5 : H.objs = rows.map (fun p => (p.n, p.o))) (v : V) :
  (ofB (rows.map fun p => (p.n, p.b)) v = none ∧ H.of v = none) ∨ ∃ p ∈ rows, v.kind = 4 ∧ p.n = v.n ∧ ofB (rows.map fun p => (p.n, p.b)) v = some p.b ∧ H.of v = some p.o := by
 unfold ofB HeapM.of
 rw [h5]
 by_cases e : v.kind = 4
 ·
  rw [if_pos e, if_pos e]
  rcases getL_map2 HRow.n HRow.b HRow.o rows v.n with h | ⟨p, hp, h1, h2, h3⟩
  ·
   exact .inl h
  ·
   exact .inr ⟨p, hp, e, h1, h2, h3⟩
 ·
  rw [if_neg e, if_neg e]; exact .inl ⟨rfl, rfl⟩
theorem heap_of (w : World) (h : Nat) (v : V) {ma : Nat} {obs : List (Int × Nat)} (c0 : w.cell? ⟨h, 0, none⟩ = some (.map (some ma))) (hm : mapIs w Tryz.prog 2 ekI exP ma obs) (r : Option Nat) (hr : ofB obs v = r) :
  Calls Tryz.prog 129 #[.pointer (some ⟨h, 0, none⟩), v.val] w fun e w' => e = .returned (.pointer (r.map fun b => ⟨b, 0, none⟩)) ∧ Below w.heap.size w w' := by
 have hlt := World.block_lt_of_cell? w _ c0
 obtain ⟨kl, hkl⟩ := keyOfI v.hn
 have hz : ∀ W, (zeroValue 154).run Tryz.prog W = .ok (.pointer none) W := fun W => Tryz.zeroValue154 W
 have hlk : ∀ o n, (Instr.lookup 150 (.map (some ma)) (.int .i64 v.n) false).run Tryz.prog ((w.alloc o).drewN n) = .ok (.pointer ((getL obs v.n).map fun b => ⟨b, 0, none⟩)) ((w.alloc o).drewN n) := fun o n => by
  have := ((hm.alloc o).drewN n).look ekI_inj keyI Tryz.underlying150 (hz _) hkl false
  cases hg : getL obs v.n with
  | none => rw [hg] at this; exact this
  | some x => rw [hg] at this; exact this
 have HR := Lib.hid hr
 clear hr hm hz hkl
 simp only [V.val]
 go_enter Tryz.func129, Tryz.ntmps129
 by_cases hk : v.kind = 4
 ·
  have hk' : (v.kind != 4) = false := by simp [hk]
  clear hk
  go_wp2
  go_quiet (fail)
  go_wp2
  go_ret
  have hk : v.kind = 4 := by simpa using hk'
  have := HR.out
  rw [ofB, if_pos hk] at this
  rw [this]
  exact ⟨rfl, by exact belowA⟩
 ·
  have hk' : (v.kind != 4) = true := by simpa using hk
  clear hk
  go_wp2
  go_ret
  have hk : ¬ v.kind = 4 := by simpa using hk'
  have := HR.out
  rw [ofB, if_neg hk] at this
  rw [← this]
  exact ⟨rfl, by exact belowA⟩
end Go.Proofs.YtijlebhoapdfnaaGreat
/- The heap: what is told of an object. -/
namespace Go.Proofs.YtijlebhoapdfnaaGreat
set_option linter.unusedSimpArgs false
open Go.RowKit
set_option linter.unusedVariables false
def HeapM.kind (H : HeapM) (v : V) : Int := ((H.of v).map ObjM.kind).getD 0
def HeapM.num (H : HeapM) (v : V) : Int := ((H.of v).map ObjM.num).getD 0
def HeapM.name (H : HeapM) (v : V) : ByteArray := ((H.of v).map ObjM.name).getD ⟨#[]⟩
def HeapM.items (H : HeapM) (v : V) : List V := ((H.of v).map ObjM.items).getD []
def HeapM.pairs (H : HeapM) (v : V) : List (V × V) := ((H.of v).map ObjM.pairs).getD []
theorem cellAlloc {w : World} {p : Addr} {v : Value} (h : w.cell? p = some v) (o : Obj) : (w.alloc o).cell? p = some v := (World.cell?_of_block (w := w) (Below.heap_alloc _ _ _ (World.block_lt_of_cell? w p h))).trans h
theorem cellBelow {w w1 : World} {p : Addr} {v : Value} (h : w.cell? p = some v) (hb : Below w.heap.size w w1) : w1.cell? p = some v := (World.cell?_of_block (w := w) (hb.block p.block (World.block_lt_of_cell? w p h))).trans h
theorem frozenBelow {w w1 : World} {p : Addr} (h : p.block < w.heap.size) (hb : Below w.heap.size w w1) : w1.frozen? p = w.frozen? p := hb.frozen (p := p) h
theorem belowAlloc (w : World) (o : Obj) : Below w.heap.size w (w.alloc o) := (Below.refl _ _).alloc (Nat.le_refl _) o
theorem belowThen {w w1 : World} {o : Obj} (hb : Below (w.alloc o).heap.size (w.alloc o) w1) : Below w.heap.size w w1 := (belowAlloc w o).trans (hb.mono (by simp))
theorem heap_kind (w : World) (h : Nat) (v : V) {H : HeapM} {ε : Int → Int} {F : List Nat} (hh : HeapIs w h H ε F) :
  Calls Tryz.prog 72 #[.pointer (some ⟨h, 0, none⟩), v.val] w fun e w' => e = .returned (.int .i64 (H.kind v)) ∧ Below w.heap.size w w' := by
 obtain ⟨ma, mr, rows, r, h1, h2, h3, h4, h5, h6, h7, h8⟩ := hh
 have c0 := cellAt h1 0 (v := .map (some ma)) rfl
 rcases ofB_cases h5 v with ⟨g1, g2⟩ | ⟨p, hp, hk, hn, g1, g2⟩
 ·
  rw [HeapM.kind, g2]
  have HO := Lib.hid (fun o => heap_of (w.alloc o) h v (cellAlloc c0 o) (h2.alloc o) none g1)
  clear h1 h2 h3 h4 h5 h6 h7 h8 g1 g2 c0
  simp only [V.val] at HO ⊢
  go_enter Tryz.func72, Tryz.ntmps72
  go_wp2_with (go_at_call 129; refine (HO.out _).mono ?_; rintro e w1 ⟨rfl, hb1⟩)
  go_ret
  exact ⟨rfl, belowThen hb1⟩
 ·
  rw [HeapM.kind, g2]
  have HO := Lib.hid (fun o => heap_of (w.alloc o) h v (cellAlloc c0 o) (h2.alloc o) (some p.b) g1)
  obtain ⟨rv, d, G, k1, k2, k3, k4, k5⟩ := h4 p hp
  have k := cellAt k1 0 (v := .int .i64 p.o.kind) rfl
  have HK := Lib.hid (fun o w1 (hb : Below (w.alloc o).heap.size (w.alloc o) w1) => cellBelow k (belowThen hb))
  clear h1 h2 h3 h4 h5 h6 h7 h8 g1 g2 c0 k k1 k2 k3 k4 k5 hk hn hp
  simp only [V.val] at HO ⊢
  go_enter Tryz.func72, Tryz.ntmps72
  go_wp2_with (go_at_call 129; refine (HO.out _).mono ?_; rintro e w1 ⟨rfl, hb1⟩; have hk1 := HK.out _ _ hb1)
  go_ret
  exact ⟨rfl, belowThen hb1⟩
end Go.Proofs.YtijlebhoapdfnaaGreat
/- The heap: one object, opened and shut. -/
namespace Go.Proofs.YtijlebhoapdfnaaGreat
set_option linter.unusedSimpArgs false
open Go.RowKit
set_option linter.unusedVariables false
theorem nodup_swap {A P P' B : List Nat} {N : Nat} (h : (A ++ (P ++ B)).Nodup) (hP' : P'.Nodup) (hg : ∀ x ∈ P', x ∈ P ∨ N ≤ x) (hlt : ∀ x ∈ A ++ B, x < N) : (A ++ (P' ++ B)).Nodup := by
 simp only [List.nodup_append, List.mem_append] at h hlt ⊢
 obtain ⟨hA, ⟨hP, hB, hPB⟩, hAPB⟩ := h
 refine ⟨hA, ⟨hP', hB, fun a ha b hb e => ?_⟩, fun a ha b hb e => ?_⟩
 ·
  subst e
  rcases hg a ha with h1 | h1
  ·
   exact hPB a h1 a hb rfl
  ·
   have := hlt a (.inr hb); omega
 ·
  subst e
  rcases hb with hb | hb
  ·
   rcases hg a hb with h1 | h1
   ·
    exact hAPB a ha a (.inl h1) rfl
   ·
    have := hlt a (.inl ha); omega
  ·
   exact hAPB a ha a (.inr hb) rfl
/-- An object is put in another one's place. -/
def HeapM.set (H : HeapM) (n : Int) (o : ObjM) : HeapM := { H with objs := H.objs.map fun p => if p.1 = n then (n, o) else p }
def objBlock (o : ObjM) (rv : Value) (d : Nat) : Obj := .cells #[.int .i64 o.kind, .string o.name, .int .i64 o.num, rv, .pointer (some ⟨d, 0, none⟩)] 158
structure OpenAt (w : World) (h : Nat) (H : HeapM) (ε : Int → Int) (F : List Nat) (v : V) (o : ObjM) (ma mr b d : Nat) (rv : Value) (G : List Nat) (obs : List (Int × Nat)) (r : List (Int × Int)) : Prop where
 hd : w.heap[h]? = some (.cells #[.map (some ma), .map (some mr), .int .i64 H.last] 153)
 hm : mapIs w Tryz.prog 2 ekI exP ma obs
 hb : ofB obs v = some b
 hr : mapIs w Tryz.prog 2 ekI exI mr r
 hc : CountsAre H ε r
 nk : (H.objs.map (·.1)).Nodup
 hg : H.of v = some o
 ho : w.heap[b]? = some (objBlock o rv d)
 hi : slIs w 24 3 V.cells rv o.items
 hdict : DictIs w d o.pairs G
 nd : (h :: ma :: mr :: (b :: rv.ownBlock.toList ++ G)).Nodup
 sub : ∀ x ∈ (h :: ma :: mr :: (b :: rv.ownBlock.toList ++ G)), x ∈ F
 shut : ∀ (w' : World) (o' : ObjM) (rv' : Value) (G' : List Nat) (r' : List (Int × Int)) (ε' : Int → Int), w'.heap[b]? = some (objBlock o' rv' d) → slIs w' 24 3 V.cells rv' o'.items → DictIs w' d o'.pairs G' →
  mapIs w' Tryz.prog 2 ekI exI mr r' → CountsAre (H.set v.n o') ε' r' → (b :: rv'.ownBlock.toList ++ G').Nodup → Grow (b :: rv.ownBlock.toList ++ G) (b :: rv'.ownBlock.toList ++ G') w →
  Outside (mr :: (b :: rv.ownBlock.toList ++ G)) w w' → ∃ F', HeapIs w' h (H.set v.n o') ε' F' ∧ Grow F F' w ∧ Outside F w w'
theorem HeapIs.open {w : World} {h : Nat} {H : HeapM} {ε : Int → Int} {F : List Nat} {v : V} {o : ObjM} (hh : HeapIs w h H ε F) (g : H.of v = some o) :
  ∃ ma mr b d rv G obs r, OpenAt w h H ε F v o ma mr b d rv G obs r := by
 have hlt := hh.lt
 obtain ⟨ma, mr, rows, r, h1, h2, h3, h4, h5, h6, h7, h8⟩ := hh
 rcases ofB_cases h5 v with ⟨g1, g2⟩ | ⟨p, hp, hk, hn, g1, g2⟩
 ·
  rw [g] at g2; cases g2
 rw [g] at g2
 have e := Option.some.inj g2
 subst e
 obtain ⟨rv, d, G, k1, k2, k3, k4, k5⟩ := h4 p hp
 obtain ⟨l1, l2, hl⟩ := List.append_of_mem hp
 have hnk := h2.nodup
 subst hl
 have hne : ∀ q ∈ l1 ++ l2, q.n ≠ p.n := by
  intro q hq e
  simp only [List.map_append, List.map_cons, List.map_map, List.nodup_append, List.nodup_cons, List.mem_map, List.mem_cons, Function.comp] at hnk
  obtain ⟨_, ⟨hn1, _⟩, hn2⟩ := hnk
  rcases List.mem_append.1 hq with hq | hq
  ·
   exact hn2 q.n ⟨q, hq, rfl⟩ p.n (.inl rfl) e
  ·
   exact hn1 ⟨q, hq, e⟩
 have h7' : (h :: ma :: mr :: l1.flatMap (·.F) ++ (p.F ++ l2.flatMap (·.F))).Nodup := by
  rw [h6] at h7; simpa [List.flatMap_append, List.flatMap_cons] using h7
 have hsub : ∀ x ∈ (h :: ma :: mr :: (p.b :: rv.ownBlock.toList ++ G)), x ∈ F := by
  intro x hx
  rw [h6, List.flatMap_append, List.flatMap_cons, k4]
  simp only [List.mem_cons, List.mem_append] at hx ⊢
  rcases hx with hx | hx | hx | hx
  ·
   simp [hx]
  ·
   simp [hx]
  ·
   simp [hx]
  ·
   right; right; right; right; left; exact hx
 refine ⟨ma, mr, p.b, d, rv, G, _, r, h1, h2, g1, h3, h8, by rw [h5]; simpa [List.map_map, Function.comp_def] using hnk, g, k1, k2, k3, ?_, hsub, ?_⟩
 ·
  have : (h :: ma :: mr :: p.F).Sublist (h :: ma :: mr :: l1.flatMap (·.F) ++ (p.F ++ l2.flatMap (·.F))) := by
   simp only [List.cons_append]
   refine List.Sublist.cons_cons _ (List.Sublist.cons_cons _ (List.Sublist.cons_cons _ ?_))
   exact (List.sublist_append_left _ _).trans (List.sublist_append_right _ _)
  have := this.nodup h7'
  rwa [k4] at this
 ·
  intro w' o' rv' G' r' ε' j1 j2 j3 j4 j5 j6 j7 j8
  have hoth : ∀ x ∈ F, x ∉ mr :: (p.b :: rv.ownBlock.toList ++ G) → w'.heap[x]? = w.heap[x]? := fun x hx hn => j8.block x (hlt x hx) hn
  have hpF : ∀ q ∈ l1 ++ l2, ∀ x ∈ q.F, x ∈ F ∧ x ∉ mr :: (p.b :: rv.ownBlock.toList ++ G) := by
   intro q hq x hx
   have hxA : x ∈ l1.flatMap (·.F) ∨ x ∈ l2.flatMap (·.F) := by
    rcases List.mem_append.1 hq with hq | hq
    ·
     exact .inl (List.mem_flatMap.2 ⟨q, hq, hx⟩)
    ·
     exact .inr (List.mem_flatMap.2 ⟨q, hq, hx⟩)
   constructor
   ·
    rw [h6]; simp only [List.mem_cons, List.flatMap_append, List.flatMap_cons, List.mem_append]
    rcases hxA with h | h
    ·
     simp [h]
    ·
     simp [h]
   ·
    rw [← k4]
    intro hm
    simp only [List.cons_append, List.nodup_cons, List.nodup_append, List.mem_append, List.mem_cons] at h7'
    obtain ⟨q1, q2, q3, q4, ⟨q5, q6, q7⟩, q8⟩ := h7'
    rcases List.mem_cons.1 hm with rfl | hm
    ·
     rcases hxA with h | h
     ·
      exact q3 (.inl h)
     ·
      exact q3 (.inr (.inr h))
    ·
     rcases hxA with h | h
     ·
      exact q8 x h x (.inl hm) rfl
     ·
      exact q7 x hm x h rfl
  have hFn : (h :: ma :: mr :: l1.flatMap (·.F) ++ ((p.b :: rv'.ownBlock.toList ++ G') ++ l2.flatMap (·.F))).Nodup :=
   nodup_swap (N := w.heap.size) h7' j6 (by rw [k4]; exact j7) (fun x hx => hlt x (by
    rw [h6]; simp only [List.cons_append, List.mem_cons, List.flatMap_append, List.flatMap_cons, List.mem_append] at hx ⊢
    rcases hx with hx | hx | hx | hx | hx <;> simp [hx]))
  have hne3 : h ∉ mr :: (p.b :: rv.ownBlock.toList ++ G) ∧ ma ∉ mr :: (p.b :: rv.ownBlock.toList ++ G) := by
   rw [← k4]
   simp only [List.cons_append, List.nodup_cons, List.nodup_append, List.mem_append, List.mem_cons] at h7' ⊢
   obtain ⟨q1, q2, q3, q4, ⟨q5, q6, q7⟩, q8⟩ := h7'
   constructor
   ·
    rintro (hx | hx)
    ·
     exact q1 (.inr (.inl hx))
    ·
     exact q1 (.inr (.inr (.inr (.inl hx))))
   ·
    rintro (hx | hx)
    ·
     exact q2 (.inl hx)
    ·
     exact q2 (.inr (.inr (.inl hx)))
  refine ⟨h :: ma :: mr :: (l1 ++ ⟨p.n, p.b, o', p.b :: rv'.ownBlock.toList ++ G'⟩ :: l2).flatMap (·.F), ⟨ma, mr, l1 ++ ⟨p.n, p.b, o', p.b :: rv'.ownBlock.toList ++ G'⟩ :: l2, r', ?_, ?_, j4, ?_, ?_, rfl, ?_, j5⟩, ?_, ?_⟩
  ·
   exact (hoth h (hsub h (by simp)) hne3.1).trans h1
  ·
   have := h2.of_block (hoth ma (hsub ma (by simp)) hne3.2)
   simpa using this
  ·
   intro q hq
   simp only [List.mem_append, List.mem_cons] at hq
   have old : q ∈ l1 ++ l2 → ObjIs w' q := fun hq => (h4 q (by simp only [List.mem_append, List.mem_cons] at hq ⊢; rcases hq with h | h <;> simp [h])).of_block fun x hx => hoth x (hpF q hq x hx).1 (hpF q hq x hx).2
   rcases hq with hq | rfl | hq
   ·
    exact old (by simp [hq])
   ·
    exact ⟨rv', d, G', j1, j2, j3, rfl, j6⟩
   ·
    exact old (by simp [hq])
  ·
   simp only [HeapM.set, h5, List.map_append, List.map_cons, List.map_map]
   rw [if_pos hn]
   have e1 : l1.map ((fun p_1 => if p_1.1 = v.n then (v.n, o') else p_1) ∘ fun p => (p.n, p.o)) = l1.map fun p => (p.n, p.o) := List.map_congr_left fun q hq => by
    simp only [Function.comp]; rw [if_neg (fun e => hne q (by simp [hq]) (e.trans hn.symm))]
   have e2 : l2.map ((fun p_1 => if p_1.1 = v.n then (v.n, o') else p_1) ∘ fun p => (p.n, p.o)) = l2.map fun p => (p.n, p.o) := List.map_congr_left fun q hq => by
    simp only [Function.comp]; rw [if_neg (fun e => hne q (by simp [hq]) (e.trans hn.symm))]
   rw [e1, e2, hn]
  ·
   simpa [List.flatMap_append, List.flatMap_cons] using hFn
  ·
   intro x hx
   simp only [List.mem_cons, List.flatMap_append, List.flatMap_cons, List.mem_append] at hx
   rw [h6]
   simp only [List.mem_cons, List.flatMap_append, List.flatMap_cons, List.mem_append]
   rcases hx with hx | hx | hx | hx | hx | hx
   ·
    simp [hx]
   ·
    simp [hx]
   ·
    simp [hx]
   ·
    simp [hx]
   ·
    rcases j7 x (by simpa [or_assoc] using hx) with h | h
    ·
     rw [← k4] at h; simp [h]
    ·
     exact .inr h
   ·
    simp [hx]
  ·
   exact j8.mono fun x hx => hsub x (by
    simp only [List.mem_cons] at hx ⊢
    rcases hx with hx | hx
    ·
     simp [hx]
    ·
     right; right; right; simpa using hx)
theorem OpenAt.of {w : World} {h : Nat} {H : HeapM} {ε : Int → Int} {F : List Nat} {v : V} {o : ObjM} {ma mr b d : Nat} {rv : Value} {G : List Nat} {obs : List (Int × Nat)} {r : List (Int × Int)} (O : OpenAt w h H ε F v o ma mr b d rv G obs r) (W : World) (hW : Below w.heap.size w W) :
  Calls Tryz.prog 129 #[.pointer (some ⟨h, 0, none⟩), v.val] W fun e w' => e = .returned (.pointer (some ⟨b, 0, none⟩)) ∧ Below W.heap.size W w' :=
 heap_of W h v (cellBelow (cellAt O.hd 0 (v := .map (some ma)) rfl) hW) (O.hm.of_block (hW.block _ O.hm.lt)) (some b) O.hb
theorem HeapIs.of_none {w : World} {h : Nat} {H : HeapM} {ε : Int → Int} {F : List Nat} {v : V} (hh : HeapIs w h H ε F) (g : H.of v = none) (W : World) (hW : Below w.heap.size w W) :
  Calls Tryz.prog 129 #[.pointer (some ⟨h, 0, none⟩), v.val] W fun e w' => e = .returned (.pointer none) ∧ Below W.heap.size W w' := by
 obtain ⟨ma, mr, rows, r, h1, h2, h3, h4, h5, h6, h7, h8⟩ := hh
 rcases ofB_cases h5 v with ⟨g1, g2⟩ | ⟨p, hp, hk, hn, g1, g2⟩
 ·
  exact heap_of W h v (cellBelow (cellAt h1 0 (v := .map (some ma)) rfl) hW) (h2.of_block (hW.block _ h2.lt)) none g1
 ·
  rw [g] at g2; cases g2
end Go.Proofs.YtijlebhoapdfnaaGreat
/- The heap: what is told of an object, by its fields. -/
namespace Go.Proofs.YtijlebhoapdfnaaGreat
set_option linter.unusedSimpArgs false
open Go.RowKit
set_option linter.unusedVariables false
theorem OpenAt.cells {w : World} {h : Nat} {H : HeapM} {ε : Int → Int} {F : List Nat} {v : V} {o : ObjM} {ma mr b d : Nat} {rv : Value} {G : List Nat} {obs : List (Int × Nat)} {r : List (Int × Int)} (O : OpenAt w h H ε F v o ma mr b d rv G obs r) (W : World) (hW : Below w.heap.size w W) :
  W.cell? ⟨b, 0, none⟩ = some (.int .i64 o.kind) ∧ W.cell? ⟨b, 1, none⟩ = some (.string o.name) ∧ W.cell? ⟨b, 2, none⟩ = some (.int .i64 o.num) ∧ W.cell? ⟨b, 3, none⟩ = some rv ∧ W.cell? ⟨b, 4, none⟩ = some (.pointer (some ⟨d, 0, none⟩)) := by
 have ho := O.ho
 unfold objBlock at ho
 exact ⟨cellBelow (cellAt ho 0 rfl) hW, cellBelow (cellAt ho 1 rfl) hW, cellBelow (cellAt ho 2 rfl) hW, cellBelow (cellAt ho 3 rfl) hW, cellBelow (cellAt ho 4 rfl) hW⟩
theorem boxAt {W w1 : World} {o : Obj} (hb : Below (W.alloc o).heap.size (W.alloc o) w1) : w1.heap[W.heap.size]? = some o := (hb.block _ (by simp)).trans (heapAllocNew W o)
theorem blockBelow {w w1 : World} {b : Nat} {o : Obj} (h : w.heap[b]? = some o) (hb : Below w.heap.size w w1) : w1.heap[b]? = some o := (hb.block _ (blockLt h)).trans h
/-- An api.Value's block. -/
theorem valBlock {w : World} {b : Nat} {x y : Int} {s : ByteArray} (h : w.heap[b]? = some (.cells #[.int .i64 x, .int .i64 y, .string s] 24)) :
  w.cell? ⟨b, 0, none⟩ = some (.int .i64 x) ∧ w.cell? ⟨b, 1, none⟩ = some (.int .i64 y) ∧ w.cell? ⟨b, 2, none⟩ = some (.string s) ∧ w.frozen? ⟨b, 0, none⟩ = false ∧ w.frozen? ⟨b, 1, none⟩ = false ∧ w.frozen? ⟨b, 2, none⟩ = false :=
 ⟨cellAt h 0 rfl, cellAt h 1 rfl, cellAt h 2 rfl, frozenAt h 0, frozenAt h 1, frozenAt h 2⟩
theorem bcell {W w1 : World} (hb : Below W.heap.size W w1) : (∀ b o, b < W.heap.size → w1.cell? ⟨b, o, none⟩ = W.cell? ⟨b, o, none⟩) ∧ (∀ b o, b < W.heap.size → w1.frozen? ⟨b, o, none⟩ = W.frozen? ⟨b, o, none⟩) :=
 ⟨fun b o h => hb.cell (p := ⟨b, o, none⟩) h, fun b o h => hb.frozen (p := ⟨b, o, none⟩) h⟩
/-- What a call laid, behind what the walk laid. -/
theorem size_drew (w : World) : w.drew.heap.size = w.heap.size := rfl
theorem heap_name (w : World) (h : Nat) (v : V) {H : HeapM} {ε : Int → Int} {F : List Nat} (hh : HeapIs w h H ε F) :
  Calls Tryz.prog 73 #[.pointer (some ⟨h, 0, none⟩), v.val] w fun e w' => e = .returned (.string (H.name v)) ∧ Below w.heap.size w w' := by
 cases g : H.of v with
 | none =>
  have HO := Lib.hid (hh.of_none g)
  have HE := Lib.hid (show (.string (H.name v) : Value) = .string ⟨#[]⟩ by simp [HeapM.name, g])
  clear hh g
  rw [HE.out]
  simp only [V.val] at HO ⊢
  go_enter Tryz.func73, Tryz.ntmps73
  go_wp2_with (go_at_call 129; refine (HO.out _ belowA).mono ?_; rintro e w1 ⟨rfl, hb1⟩)
  go_ret
  exact ⟨rfl, by exact Below.next belowA hb1 (by (try simp only [World.size_alloc, size_drew, size_drewN, size_setCell]); omega)⟩
 | some o =>
  obtain ⟨ma, mr, b, d, rv, G, obs, r, O⟩ := hh.open g
  obtain ⟨ra, rcap, hrv⟩ := O.hi.form
  subst hrv
  have HO := Lib.hid O.of
  have HK := Lib.hid O.cells
  have HE := Lib.hid (show (.string (H.name v) : Value) = .string o.name by simp [HeapM.name, g])
  clear hh g O
  rw [HE.out]
  simp only [V.val] at HO ⊢
  go_enter Tryz.func73, Tryz.ntmps73
  go_wp2_with (go_at_call 129; refine (HO.out _ belowA).mono ?_; rintro e w1 ⟨rfl, hb1⟩; have hB : Below w.heap.size w w1 := (by exact Below.next belowA hb1 (by (try simp only [World.size_alloc, size_drew, size_drewN, size_setCell]); omega)); obtain ⟨k0, k1, k2, k3, k4⟩ := HK.out _ hB)
  go_ret
  exact ⟨rfl, hB⟩
theorem heap_num (w : World) (h : Nat) (v : V) {H : HeapM} {ε : Int → Int} {F : List Nat} (hh : HeapIs w h H ε F) :
  Calls Tryz.prog 75 #[.pointer (some ⟨h, 0, none⟩), v.val] w fun e w' => e = .returned (.int .i64 (H.num v)) ∧ Below w.heap.size w w' := by
 cases g : H.of v with
 | none =>
  have HO := Lib.hid (hh.of_none g)
  have HE := Lib.hid (show (.int .i64 (H.num v) : Value) = .int .i64 0 by simp [HeapM.num, g])
  clear hh g
  rw [HE.out]
  simp only [V.val] at HO ⊢
  go_enter Tryz.func75, Tryz.ntmps75
  go_wp2_with (go_at_call 129; refine (HO.out _ belowA).mono ?_; rintro e w1 ⟨rfl, hb1⟩)
  go_ret
  exact ⟨rfl, by exact Below.next belowA hb1 (by (try simp only [World.size_alloc, size_drew, size_drewN, size_setCell]); omega)⟩
 | some o =>
  obtain ⟨ma, mr, b, d, rv, G, obs, r, O⟩ := hh.open g
  obtain ⟨ra, rcap, hrv⟩ := O.hi.form
  subst hrv
  have HO := Lib.hid O.of
  have HK := Lib.hid O.cells
  have HE := Lib.hid (show (.int .i64 (H.num v) : Value) = .int .i64 o.num by simp [HeapM.num, g])
  clear hh g O
  rw [HE.out]
  simp only [V.val] at HO ⊢
  go_enter Tryz.func75, Tryz.ntmps75
  go_wp2_with (go_at_call 129; refine (HO.out _ belowA).mono ?_; rintro e w1 ⟨rfl, hb1⟩; have hB : Below w.heap.size w w1 := (by exact Below.next belowA hb1 (by (try simp only [World.size_alloc, size_drew, size_drewN, size_setCell]); omega)); obtain ⟨k0, k1, k2, k3, k4⟩ := HK.out _ hB)
  go_ret
  exact ⟨rfl, hB⟩
theorem heap_len (w : World) (h : Nat) (v : V) {H : HeapM} {ε : Int → Int} {F : List Nat} (hh : HeapIs w h H ε F) :
  Calls Tryz.prog 86 #[.pointer (some ⟨h, 0, none⟩), v.val] w fun e w' => e = .returned (.int .i64 (H.items v).length) ∧ Below w.heap.size w w' := by
 cases g : H.of v with
 | none =>
  have HO := Lib.hid (hh.of_none g)
  have HE := Lib.hid (show (.int .i64 (H.items v).length : Value) = .int .i64 0 by simp [HeapM.items, g])
  clear hh g
  rw [HE.out]
  simp only [V.val] at HO ⊢
  go_enter Tryz.func86, Tryz.ntmps86
  go_wp2_with (go_at_call 129; refine (HO.out _ belowA).mono ?_; rintro e w1 ⟨rfl, hb1⟩)
  go_ret
  exact ⟨rfl, by exact Below.next belowA hb1 (by (try simp only [World.size_alloc, size_drew, size_drewN, size_setCell]); omega)⟩
 | some o =>
  obtain ⟨ma, mr, b, d, rv, G, obs, r, O⟩ := hh.open g
  obtain ⟨ra, rcap, hrv⟩ := O.hi.form
  subst hrv
  have HO := Lib.hid O.of
  have HK := Lib.hid O.cells
  have HE := Lib.hid (show (.int .i64 (H.items v).length : Value) = .int .i64 o.items.length by simp [HeapM.items, g])
  clear hh g O
  rw [HE.out]
  simp only [V.val] at HO ⊢
  go_enter Tryz.func86, Tryz.ntmps86
  go_wp2_with (go_at_call 129; refine (HO.out _ belowA).mono ?_; rintro e w1 ⟨rfl, hb1⟩; have hB : Below w.heap.size w w1 := (by exact Below.next belowA hb1 (by (try simp only [World.size_alloc, size_drew, size_drewN, size_setCell]); omega)); obtain ⟨k0, k1, k2, k3, k4⟩ := HK.out _ hB)
  go_ret
  exact ⟨rfl, hB⟩
end Go.Proofs.YtijlebhoapdfnaaGreat
/- The heap: At, Get, Size, Count. -/
namespace Go.Proofs.YtijlebhoapdfnaaGreat
set_option linter.unusedSimpArgs false
open Go.RowKit
set_option linter.unusedVariables false
def HeapM.get (H : HeapM) (v k : V) : Option V := getL (H.pairs v) k
def HeapM.count (H : HeapM) (v : V) : Int := if (H.of v).isSome then cnt (allVals H.objs) v.n else 0
end Go.Proofs.YtijlebhoapdfnaaGreat
/- The heap: Get. -/
namespace Go.Proofs.YtijlebhoapdfnaaGreat
set_option linter.unusedSimpArgs false
open Go.RowKit
set_option linter.unusedVariables false
theorem heap_get (w : World) (h : Nat) (v k : V) {H : HeapM} {ε : Int → Int} {F : List Nat} (hh : HeapIs w h H ε F) :
  Calls Tryz.prog 80 #[.pointer (some ⟨h, 0, none⟩), v.val, k.val] w fun e w' => e = .returned (.tuple #[((H.get v k).getD V.zero).val, .bool (H.get v k).isSome]) ∧ Below w.heap.size w w' := by
 cases g : H.of v with
 | none =>
  have HO := Lib.hid (hh.of_none g)
  have HE := Lib.hid (show H.get v k = none by simp [HeapM.get, HeapM.pairs, g, getL])
  clear hh g
  rw [HE.out]
  simp only [V.val] at HO ⊢
  go_enter Tryz.func80, Tryz.ntmps80
  go_wp2_with (go_at_call 129; refine (HO.out _ belowA).mono ?_; rintro e w1 ⟨rfl, hb1⟩; have hB : Below w.heap.size w w1 := (by exact Below.next belowA hb1 (by (try simp only [World.size_alloc, size_drew, size_drewN, size_setCell]); omega)); obtain ⟨hc, hf⟩ := bcell hb1; have hz : w.heap.size + 2 < w1.heap.size := (by have := hb1.size; simp at this; omega))
  exact bodyPost_ret (v := .tuple #[.agg #[.int .i64 0, .int .i64 0, .string ⟨#[]⟩], .bool false]) (by simp [results, Tryz.results80, go_sem, hc]) rfl ⟨rfl, by exact belowA⟩
 | some o =>
  obtain ⟨ma, mr, b, d, rv, G, obs, r, O⟩ := hh.open g
  have HO := Lib.hid O.of
  have HK := Lib.hid O.cells
  have HE := Lib.hid (show H.get v k = getL o.pairs k by simp [HeapM.get, HeapM.pairs, g])
  have HD := Lib.hid (fun W (hW : Below w.heap.size w W) => dict_get W d o.pairs G k (O.hdict.below hW))
  have blt := blockLt O.ho
  clear hh O g
  rw [HE.out]
  have HV : ∃ y : V, ((getL o.pairs k).getD V.zero) = y := ⟨_, rfl⟩
  obtain ⟨y, hy⟩ := HV
  rw [hy]
  simp only [hy] at HD
  clear hy
  generalize (getL o.pairs k).isSome = t at HD ⊢
  simp only [V.val] at HO HD ⊢
  go_enter Tryz.func80, Tryz.ntmps80
  go_wp2_with (go_at_call 129; refine (HO.out _ belowA).mono ?_; rintro e w1 ⟨rfl, hb1⟩; have hB : Below w.heap.size w w1 := (by exact Below.next belowA hb1 (by (try simp only [World.size_alloc, size_drew, size_drewN, size_setCell]); omega)); obtain ⟨k0, k1, k2, k3, k4⟩ := HK.out _ hB; obtain ⟨hc, hf⟩ := bcell hb1; have hz : w.heap.size + 2 < w1.heap.size := (by have := hb1.size; simp at this; omega))
  have hbox : w1.heap[w.heap.size + 2]? = some (.cells #[.int .i64 0, .int .i64 0, .string ⟨#[]⟩] 24) := by have := boxAt hb1; simpa using this
  go_region_with (go_at_call 133; (refine (HD.out _ belowA).mono ?_; rintro e w2 ⟨rfl, hb2⟩; have hB2 : Below w.heap.size w w2 := (by exact Below.next belowA hb2 (by (try simp only [World.size_alloc, size_drew, size_drewN, size_setCell]); omega)); obtain ⟨q0, q1, q2, q3, q4, q5⟩ := valBlock (blockBelow (show w1.drew.heap[w.heap.size + 2]? = _ from hbox) hb2)))
  all_goals go_wp2
  all_goals exact bodyPost_ret (v := .tuple #[.agg #[.int .i64 y.kind, .int .i64 y.n, .string y.s], .bool t]) (by simp [results, Tryz.results80, go_sem, q0, q1, q2]) rfl ⟨rfl, by exact belowA⟩
end Go.Proofs.YtijlebhoapdfnaaGreat
/- The heap: Size, Count, Items; SetNum. -/
namespace Go.Proofs.YtijlebhoapdfnaaGreat
set_option linter.unusedSimpArgs false
open Go.RowKit
set_option linter.unusedVariables false
section
variable {w : World} {h : Nat} {H : HeapM} {ε : Int → Int} {F : List Nat} {v : V} {o : ObjM} {ma mr b d : Nat} {rv : Value} {G : List Nat} {obs : List (Int × Nat)} {r : List (Int × Int)}
theorem OpenAt.counts (O : OpenAt w h H ε F v o ma mr b d rv G obs r) (o' : ObjM) {r' : List (Int × Int)} {ε' : Int → Int} (hr : ∀ n, cntL r' n = wrap64 (cnt (allVals H.objs) n - cnt o.vals n + cnt o'.vals n + ε' n)) : CountsAre (H.set v.n o') ε' r' := by
 intro n
 rw [hr, HeapM.set, cnt_setL O.nk (HeapM.of_some O.hg).2]
end
theorem heap_size (w : World) (h : Nat) (v : V) {H : HeapM} {ε : Int → Int} {F : List Nat} (hh : HeapIs w h H ε F) :
  Calls Tryz.prog 150 #[.pointer (some ⟨h, 0, none⟩), v.val] w fun e w' => e = .returned (.int .i64 (H.pairs v).length) ∧ Below w.heap.size w w' := by
 cases g : H.of v with
 | none =>
  have HO := Lib.hid (hh.of_none g)
  have HE := Lib.hid (show (.int .i64 (H.pairs v).length : Value) = .int .i64 0 by simp [HeapM.pairs, g])
  clear hh g
  rw [HE.out]
  simp only [V.val] at HO ⊢
  go_enter Tryz.func150, Tryz.ntmps150
  go_wp2_with (go_at_call 129; refine (HO.out _ belowA).mono ?_; rintro e w1 ⟨rfl, hb1⟩)
  go_ret
  exact ⟨rfl, by exact Below.next belowA hb1 (by (try simp only [World.size_alloc, size_drew, size_drewN, size_setCell]); omega)⟩
 | some o =>
  obtain ⟨ma, mr, b, d, rv, G, obs, r, O⟩ := hh.open g
  have HO := Lib.hid O.of
  have HK := Lib.hid O.cells
  have HE := Lib.hid (show (.int .i64 (H.pairs v).length : Value) = .int .i64 o.pairs.length by simp [HeapM.pairs, g])
  have HD := Lib.hid (fun W (hW : Below w.heap.size w W) => dict_len W d o.pairs G (O.hdict.below hW))
  clear hh g O
  rw [HE.out]
  simp only [V.val] at HO ⊢
  go_enter Tryz.func150, Tryz.ntmps150
  go_wp2_with (go_at_call 129; refine (HO.out _ belowA).mono ?_; rintro e w1 ⟨rfl, hb1⟩; have hB : Below w.heap.size w w1 := (by exact Below.next belowA hb1 (by (try simp only [World.size_alloc, size_drew, size_drewN, size_setCell]); omega)); obtain ⟨k0, k1, k2, k3, k4⟩ := HK.out _ hB)
  go_wp2_with (go_at_call 186; refine (HD.out _ belowA).mono ?_; rintro e w2 ⟨rfl, rfl⟩)
  go_ret
  exact ⟨rfl, hB⟩
theorem heap_items (w : World) (h : Nat) (v : V) {H : HeapM} {ε : Int → Int} {F : List Nat} (hh : HeapIs w h H ε F) (hlen : (H.items v).length ≤ 4194304) :
  Calls Tryz.prog 78 #[.pointer (some ⟨h, 0, none⟩), v.val] w fun e w' => ∃ sv, e = .returned sv ∧ slIs w' 24 3 V.cells sv (H.items v) ∧ (∀ b, sv.ownBlock = some b → w.heap.size ≤ b) ∧ Below w.heap.size w w' := by
 cases g : H.of v with
 | none =>
  have HO := Lib.hid (hh.of_none g)
  have HE := Lib.hid (show H.items v = [] by simp [HeapM.items, g])
  clear hh g hlen
  rw [HE.out]
  simp only [V.val] at HO ⊢
  go_enter Tryz.func78, Tryz.ntmps78
  go_wp2_with (go_at_call 129; refine (HO.out _ belowA).mono ?_; rintro e w1 ⟨rfl, hb1⟩)
  go_ret
  exact ⟨_, rfl, World.ownsRow_nil _ _ _ _, by simp [Value.ownBlock], by exact Below.next belowA hb1 (by (try simp only [World.size_alloc, size_drew, size_drewN, size_setCell]); omega)⟩
 | some o =>
  obtain ⟨ma, mr, b, d, rv, G, obs, r, O⟩ := hh.open g
  have HO := Lib.hid O.of
  have HK := Lib.hid O.cells
  have HE := Lib.hid (show H.items v = o.items by simp [HeapM.items, g])
  rw [HE.out] at hlen ⊢
  have HD := Lib.hid (fun W (hW : Below w.heap.size w W) => clone_vals W rv o.items ((O.hi.sees').keep fun p v hp => cellBelow hp hW) hlen)
  clear hh g O
  simp only [V.val] at HO ⊢
  go_enter Tryz.func78, Tryz.ntmps78
  go_wp2_with (go_at_call 129; refine (HO.out _ belowA).mono ?_; rintro e w1 ⟨rfl, hb1⟩; have hB : Below w.heap.size w w1 := (by exact Below.next belowA hb1 (by (try simp only [World.size_alloc, size_drew, size_drewN, size_setCell]); omega)); obtain ⟨k0, k1, k2, k3, k4⟩ := HK.out _ hB)
  go_wp2_with (go_at_call 152; refine (HD.out _ belowA).mono ?_; rintro e w2 ⟨sv, rfl, hs, hsn, hb2⟩)
  go_ret
  exact ⟨_, rfl, hs, fun b hb => Nat.le_trans hB.size (hsn b hb), Below.next hB hb2 hB.size⟩
end Go.Proofs.YtijlebhoapdfnaaGreat
