import Derived.Test.YtijlebhoapdfnaaGreatDictA
import Derived.Maps.AppendAt
import Derived.Deep.RegionLaw
/- Dicts: Put, Del. -/
set_option maxRecDepth 8000
set_option maxHeartbeats 1600000
namespace Go.Proofs.YtijlebhoapdfnaaGreat
set_option linter.unusedSimpArgs false
open Go.RowKit
set_option linter.unusedVariables false
theorem live_set {rows : List Row} (hn : ((liveRows rows).map (·.1)).Nodup) {i : Nat} {k x : V} (h : rows[i]? = some ⟨k, x, false⟩) (x' : V) :
  liveRows (rows.set i ⟨k, x', false⟩) = (liveRows rows).map (fun p => if p.1 = k then (k, x') else p) := by
 induction rows generalizing i with
 | nil => simp at h
 | cons p r ih =>
  have cons_eq : ∀ q : Row, ∀ l, liveRows (q :: l) = (if q.gone then [] else [(q.k, q.x)]) ++ liveRows l := fun q l => by
   cases hg : q.gone <;> simp [liveRows, Row.live, hg]
  rw [cons_eq] at hn
  cases i with
  | zero =>
   simp at h; subst h
   simp only [List.set_cons_zero, cons_eq]
   simp only [Bool.false_eq_true, if_false, List.cons_append, List.nil_append, List.map_cons, List.nodup_cons, if_true] at hn ⊢
   congr 1
   conv => lhs; rw [← List.map_id' (liveRows r)]
   exact List.map_congr_left fun q hq => (if_neg fun e => hn.1 (List.mem_map.2 ⟨q, hq, e⟩)).symm
  | succ i =>
   simp at h
   simp only [List.set_cons_succ, cons_eq, List.map_append]
   have hn2 : ((liveRows r).map (·.1)).Nodup := by
    rw [List.map_append] at hn; exact (List.nodup_append.1 hn).2.1
   rw [ih hn2 h]
   congr 1
   cases hg : p.gone with
   | true => simp
   | false =>
    have hmem : (k, x) ∈ liveRows r := List.mem_filterMap.2 ⟨_, List.mem_of_getElem? h, by simp [Row.live]⟩
    have : p.k ≠ k := fun e => by
     rw [hg] at hn
     simp only [Bool.false_eq_true, if_false, List.cons_append, List.nil_append, List.map_cons, List.nodup_cons] at hn
     exact hn.1 (List.mem_map.2 ⟨_, hmem, e.symm⟩)
    simp [this]
theorem live_append (rows : List Row) (k x : V) : liveRows (rows ++ [⟨k, x, false⟩]) = liveRows rows ++ [(k, x)] := by simp [liveRows, Row.live]
theorem info_pair : (Tryz.prog.info? 199).map (fun i => (i.zero, i.size, i.bytes)) = some (some (.agg #[.int .i64 0, .int .i64 0, .string ⟨#[]⟩, .int .i64 0, .int .i64 0, .string ⟨#[]⟩, .bool false]), 7, 72) := by kernel_rfl
/-- Where a key of a dict is found. -/
theorem dict_look {rows : List Row} {L : List (V × V)} {tb : List (V × Nat)} (hL : liveRows rows = L) (hn : (L.map (·.1)).Nodup) (hat : ∀ k i, getL tb k = some i ↔ ∃ x, rows[i]? = some ⟨k, x, false⟩) (k : V) :
  (getL tb k = none ∧ getL L k = none) ∨ ∃ i x, getL tb k = some i ∧ getL L k = some x ∧ rows[i]? = some ⟨k, x, false⟩ := by
 cases hg : getL tb k with
 | some i =>
  obtain ⟨x, hx⟩ := (hat k i).1 hg
  exact .inr ⟨i, x, rfl, getL_of_mem hn (by rw [← hL]; exact List.mem_filterMap.2 ⟨_, List.mem_of_getElem? hx, Row.live_some.2 rfl⟩), hx⟩
 | none =>
  refine .inl ⟨rfl, ?_⟩
  cases h' : getL L k with
  | none => rfl
  | some x =>
   obtain ⟨r, hr1, hr2⟩ := List.mem_filterMap.1 (hL ▸ getL_mem h')
   obtain ⟨i, hi⟩ := List.getElem?_of_mem hr1
   have := (hat k i).2 ⟨x, by rw [hi]; exact congrArg some (Row.live_some.1 hr2)⟩
   rw [hg] at this; cases this
theorem dict_put_there (w : World) (d : Nat) (L : List (V × V)) (F : List Nat) (k x y : V) (h : DictIs w d L F) (hy : getL L k = some y) : Calls Tryz.prog 134 #[.pointer (some ⟨d, 0, none⟩), k.val, x.val] w fun e w' =>
  e = .returned (.bool true) ∧ DictIs w' d (putL L k x) F ∧ Outside F w w' := by
 obtain ⟨m, rv, rows, tb, hd, hm, hr, hL, hn, hat, hlen, rfl, hnd, h4, h5⟩ := h
 have c0 := cellAt hd 0 (v := .map (some m)) rfl
 have c1 := cellAt hd 1 (v := rv) rfl
 have dlt := blockLt hd
 have mlt := hm.lt
 obtain ⟨kl, hkl⟩ := keyOfV k
 have hz : ∀ W, (zeroValue 3).run Tryz.prog W = .ok (.int .i64 0) W := fun W => Tryz.zeroValue3 W
 simp only [V.val]
 rcases dict_look hL hn hat k with ⟨g1, g2⟩ | ⟨i, y', g1, g2, g3⟩
 ·
  rw [hy] at g2; cases g2
 ·
  have hlk : ∀ o o', (Instr.lookup 191 (.map (some m)) (.agg #[.int .i64 k.kind, .int .i64 k.n, .string k.s]) true).run Tryz.prog ((w.alloc o).alloc o').drew = .ok (.tuple #[.int .i64 i, .bool true]) ((w.alloc o).alloc o').drew := fun o o' => by
   have := (((hm.alloc o).alloc o').drewN 1).look ekV_inj keyV Tryz.underlying191 (hz _) hkl true
   rw [g1] at this; exact this
  obtain ⟨g, cap, rfl, hcap, hmx, hglt⟩ : ∃ g cap, rv = .slice (some ⟨g, 0, none⟩) rows.length cap ∧ rows.length ≤ cap ∧ cap ≤ maxLen ∧ g < w.heap.size := by
   rcases hr.shape with ⟨_, rfl⟩ | h
   ·
    simp at g3
   ·
    exact h
  have hil : i < rows.length := (List.getElem?_eq_some_iff.1 g3).1
  obtain ⟨d0, d1, d2, d3, d4, d5, d6⟩ := rowFacts hr g3
  have hfr : ∀ j, w.frozen? ⟨g, j, none⟩ = false := fun j => hr.frozen rfl j
  have goal : ∀ o o', DictIs ((((((w.setCell ⟨g, i * 7 + 3, none⟩ (.int .i64 x.kind)).setCell ⟨g, i * 7 + 3 + 1, none⟩ (.int .i64 x.n)).setCell ⟨g, i * 7 + 3 + 2, none⟩ (.string x.s)).alloc o).alloc o').drew.drew) d (putL L k x) (d :: m :: Option.toList (Value.ownBlock (.slice (some ⟨g, 0, none⟩) rows.length cap))) ∧
    Outside (d :: m :: Option.toList (Value.ownBlock (.slice (some ⟨g, 0, none⟩) rows.length cap))) w ((((((w.setCell ⟨g, i * 7 + 3, none⟩ (.int .i64 x.kind)).setCell ⟨g, i * 7 + 3 + 1, none⟩ (.int .i64 x.n)).setCell ⟨g, i * 7 + 3 + 2, none⟩ (.string x.s)).alloc o).alloc o').drew.drew) := by
   intro o o'
   have hdg : d ≠ g := by intro e; subst e; simp [Value.ownBlock] at hnd
   have hmg : m ≠ g := by intro e; subst e; simp [Value.ownBlock] at hnd
   have hp := hr.putPart rowCells_len g3 (o := 3) (a' := ⟨k, x, false⟩) (vs := [.int .i64 x.kind, .int .i64 x.n, .string x.s]) rfl (by simp)
   have hs3 : w.setCells g (i * 7 + 3) [.int .i64 x.kind, .int .i64 x.n, .string x.s] = ((w.setCell ⟨g, i * 7 + 3, none⟩ (.int .i64 x.kind)).setCell ⟨g, i * 7 + 3 + 1, none⟩ (.int .i64 x.n)).setCell ⟨g, i * 7 + 3 + 2, none⟩ (.string x.s) := rfl
   rw [← hs3]
   have ho : Outside [g] w (w.setCells g (i * 7 + 3) [.int .i64 x.kind, .int .i64 x.n, .string x.s]) := Outside.setCells (.inl (by simp)) _ _ (Outside.refl _ _)
   generalize w.setCells g (i * 7 + 3) [.int .i64 x.kind, .int .i64 x.n, .string x.s] = W3 at hp ho
   have hD : DictIs W3 d (putL L k x) (d :: m :: Option.toList (Value.ownBlock (.slice (some ⟨g, 0, none⟩) rows.length cap))) := by
    refine ⟨m, .slice (some ⟨g, 0, none⟩) rows.length cap, rows.set i ⟨k, x, false⟩, tb, (ho.block d dlt (by simpa using hdg)).trans hd, hm.of_block (ho.block m mlt (by simpa using hmg)), hp, ?_, ?_, ?_, ?_, rfl, hnd, ?_, by rw [List.length_set]; exact h5⟩
    ·
     rw [live_set (by rw [hL]; exact hn) g3, hL, putL_some x g2]
    ·
     exact nodup_putL hn k x
    ·
     intro k' i'
     rw [hat]
     by_cases e : i = i'
     ·
      subst e
      rw [List.getElem?_set_self hil, g3]
      constructor
      ·
       rintro ⟨z, hz⟩; cases hz; exact ⟨x, rfl⟩
      ·
       rintro ⟨z, hz⟩; cases hz; exact ⟨y', rfl⟩
     ·
      rw [List.getElem?_set_ne e]
    ·
     rw [putL_length x g2]; exact hlen
    ·
     rw [putL_length x g2]; exact h4
   exact ⟨hD.below belowA, (((ho.mono (by simp [Value.ownBlock])).alloc o).alloc o').drew.drew⟩
  have HG := Lib.hid goal
  clear goal hd hm hr hL hn hat hlen hy g1 g2 g3 hz hkl hnd d0 d1 d2 d6
  go_enter Tryz.func134, Tryz.ntmps134
  go_wp2
  go_region
  go_wp2
  go_region
  go_wp2
  go_returns
  refine ⟨rfl, ?_⟩
  exact HG.out _ _
end Go.Proofs.YtijlebhoapdfnaaGreat
/- Dicts: Put of a new key. -/
namespace Go.Proofs.YtijlebhoapdfnaaGreat
set_option linter.unusedSimpArgs false
open Go.RowKit
set_option linter.unusedVariables false
theorem step_append_run {P : Program} {ops : Array Oper} {o : Oper} {a : Act} {w : World} {K : Act → World → Prop} {Q : Exit → Act → World → Prop} {E : Prop} (hg : o.guard = none) (s x : Operand) (t : TypeId)
  (hop : o.op = .call { callee := .builtin .append, args := #[s, x], argTypes := #[t, t] }) {v y v' : Value} {w' : World} (hs : a.eval s = v) (hx : a.eval x = y) (hrun : (Builtin.append_ #[t, t] o.type #[v, y]).run P w = .ok v' w')
  (hK : K (a.put o.dst v') w') : if Region.wanted o (yielded ops a.tmps) = true then Oper.wp P o a w K Q else E := by
 have hw : Region.wanted o (yielded ops a.tmps) = true := by simp [Region.wanted, hg]
 rw [if_pos hw]
 unfold Oper.wp
 simp [execOp, hop, resolve, invoke, builtin, hs, hx, hrun, Result.andThen]
 exact hK
theorem lenRun {W : World} {m : Nat} {tb : List (V × Nat)} (hm : mapIs W Tryz.prog 24 ekV exN m tb) : ∀ ty, (Builtin.len_ #[191] ty #[.map (some m)]).run Tryz.prog W = .ok (.int .i64 tb.length) W := fun ty => hm.len Tryz.underlying191 ty
theorem slIs.form {α : Type} {w : World} {e : TypeId} {m : Nat} {f : α → List Value} {rv : Value} {l : List α} (h : slIs w e m f rv l) : ∃ a cap, rv = .slice a l.length cap := by
 rcases h.shape with ⟨rfl, rfl⟩ | ⟨g, cap, rfl, _⟩
 ·
  exact ⟨none, 0, rfl⟩
 ·
  exact ⟨_, _, rfl⟩
theorem dict_put_no (w : World) (d : Nat) (L : List (V × V)) (F : List Nat) (k x : V) (h : DictIs w d L F) (hy : getL L k = none) (hno : k.isKey = false ∨ L.length = 4096) : Calls Tryz.prog 134 #[.pointer (some ⟨d, 0, none⟩), k.val, x.val] w fun e w' =>
  e = .returned (.bool false) ∧ Below w.heap.size w w' := by
 obtain ⟨m, rv, rows, tb, hd, hm, hr, hL, hn, hat, hlen, rfl, hnd, h4, h5⟩ := h
 have c0 := cellAt hd 0 (v := .map (some m)) rfl
 have dlt := blockLt hd
 have mlt := hm.lt
 obtain ⟨kl, hkl⟩ := keyOfV k
 have hz : ∀ W, (zeroValue 3).run Tryz.prog W = .ok (.int .i64 0) W := fun W => Tryz.zeroValue3 W
 obtain ⟨g1, g2⟩ : getL tb k = none ∧ getL L k = none := by
  rcases dict_look hL hn hat k with ⟨g1, g2⟩ | ⟨i, y', g1, g2, g3⟩
  ·
   exact ⟨g1, g2⟩
  ·
   rw [hy] at g2; cases g2
 have hlk : ∀ o o', (Instr.lookup 191 (.map (some m)) (.agg #[.int .i64 k.kind, .int .i64 k.n, .string k.s]) true).run Tryz.prog ((w.alloc o).alloc o').drew = .ok (.tuple #[.int .i64 0, .bool false]) ((w.alloc o).alloc o').drew := fun o o' => by
  have := (((hm.alloc o).alloc o').drewN 1).look ekV_inj keyV Tryz.underlying191 (hz _) hkl true
  rw [g1] at this; exact this
 have HM := Lib.hid hm
 have HD := Lib.hid hd
 rw [← hlen] at hno
 clear hd hm hr hL hn hat hy g1 g2 hz hkl hnd hlen
 simp only [V.val]
 go_enter Tryz.func134, Tryz.ntmps134
 go_wp2_with fail
 go_region
 go_wp2_with fail
 refine (dict_key _ k).mono ?_
 rintro e w1 ⟨rfl, hb⟩
 have hk1 : ∀ b, b < w.heap.size → w1.heap[b]? = w.heap[b]? := fun b hb' => (hb.block b (by simp; omega)).trans ((((Outside.refl [] w).alloc _).alloc _).drew.block b hb' (by simp))
 have hd1 := (hk1 d dlt).trans HD.out
 have c1 := cellAt hd1 0 (v := .map (some m)) rfl
 have hln := lenRun (HM.out.of_block (hk1 m mlt))
 have hB : Below w.heap.size w w1 := (((Below.refl w.heap.size w).alloc (Nat.le_refl _) _).alloc (by simp) _).drew.trans (hb.mono (by simp; omega))
 have HB := Lib.hid hB
 clear hk1 hd1 hB hb
 cases hkk : k.isKey with
 | false =>
  go_wp2_with fail
  go_returns
  exact ⟨rfl, HB.out⟩
 | true =>
  have h46 : tb.length = 4096 := by rcases hno with h | h; rw [hkk] at h; cases h; exact h
  rw [h46] at hln
  clear hno h46
  go_wp2_with fail
  go_returns
  exact ⟨rfl, HB.out⟩
/-- The end of Put at a new key: what the map's write and the append make. -/
theorem put_tail {Wt : World} {d m : Nat} {k x : V} {rv : Value} {rows : List Row} {tb : List (V × Nat)} {L : List (V × V)} (hd : Wt.heap[d]? = some (.cells #[.map (some m), rv] 194)) (hm : mapIs Wt Tryz.prog 24 ekV exN m tb) (hr : slIs Wt 199 7 rowCells rv rows)
  (hL : liveRows rows = L) (hn : (L.map (·.1)).Nodup) (hat : ∀ k i, getL tb k = some i ↔ ∃ x, rows[i]? = some ⟨k, x, false⟩) (hlen : tb.length = L.length) (hnd : (d :: m :: rv.ownBlock.toList).Nodup) (h4 : L.length < 4096) (h5 : rows.length ≤ 2 * 4096 + 8) (hk : getL L k = none) :
  ∃ f : World, (Instr.mapUpdate 191 (.map (some m)) (.agg #[.int .i64 k.kind, .int .i64 k.n, .string k.s]) (.int .i64 rows.length)).run Tryz.prog Wt.drew = .ok () f ∧ onlyAt Wt.drew f m ∧ slIs f 199 7 rowCells rv rows ∧
   ∀ o v' w2, w2.ownsRow 0 199 7 v' (rows.length + 1) (rows.flatMap rowCells ++ rowCells ⟨k, x, false⟩) → (f.alloc o).grownBy w2 rv.ownBlock → (v'.ownBlock = rv.ownBlock ∨ v'.ownBlock = some (f.alloc o).heap.size) →
    ∃ F', DictIs (w2.setCell ⟨d, 1, none⟩ v') d (L ++ [(k, x)]) F' ∧ Grow (d :: m :: rv.ownBlock.toList) F' Wt ∧ Outside (d :: m :: rv.ownBlock.toList) Wt (w2.setCell ⟨d, 1, none⟩ v') := by
 obtain ⟨kl, hkl⟩ := keyOfV k
 have gn : getL tb k = none := by
  rcases dict_look hL hn hat k with ⟨g1, g2⟩ | ⟨i, y', g1, g2, g3⟩
  ·
   exact g1
  ·
   rw [hk] at g2; cases g2
 obtain ⟨f, f1, f2, f3⟩ := (hm.drewN 1).update ekV_inj keyV Tryz.underlying191 hkl rows.length
 have dlt := blockLt hd
 have mlt := hm.lt
 have hdm : d ≠ m := by intro e; subst e; simp at hnd
 have hrm : ∀ g, rv.ownBlock = some g → g ≠ m ∧ g ≠ d := fun g hg => by
  rw [hg] at hnd; simp at hnd
  exact ⟨fun e => hnd.2 e.symm, fun e => hnd.1.2 e.symm⟩
 have fs : f.heap.size = Wt.heap.size := f3.1
 have fb : ∀ b, b < Wt.heap.size → b ≠ m → f.heap[b]? = Wt.heap[b]? := fun b hb hne => f3.2.block b hb (by simpa using hne)
 have hrf : slIs f 199 7 rowCells rv rows := hr.of_block fun g hg => fb g (hr.lt g hg) (hrm g hg).1
 refine ⟨f, f1, f3, hrf, ?_⟩
 intro o v' w2 hown hg hat'
 have ws : Wt.heap.size + 1 ≤ w2.heap.size := by have := hg.size; rw [World.size_alloc, fs] at this; exact this
 have wb : ∀ b, b < Wt.heap.size → b ≠ m → rv.ownBlock ≠ some b → w2.heap[b]? = Wt.heap[b]? := fun b hb h1 h2 =>
  (hg.block b (by rw [World.size_alloc, fs]; omega) (fun e => h2 e.symm)).trans ((Below.heap_alloc _ _ _ (by rw [fs]; exact hb)).trans (fb b hb h1))
 have hd2 : w2.heap[d]? = some (.cells #[.map (some m), rv] 194) := (wb d dlt hdm (fun e => (hrm d e).2 rfl)).trans hd
 have hm2 : mapIs w2 Tryz.prog 24 ekV exN m (putL tb k rows.length) := f2.of_block ((hg.block m (by rw [World.size_alloc, fs]; omega) (fun e => (hrm m e.symm).1 rfl)).trans (Below.heap_alloc _ _ _ (by rw [fs]; exact mlt)))
 have hv'd : v'.ownBlock ≠ some d := by
  rcases hat' with e | e
  ·
   rw [e]; exact fun h => (hrm d h).2 rfl
  ·
   rw [e, World.size_alloc, fs]; intro h; simp at h; omega
 have hv'm : v'.ownBlock ≠ some m := by
  rcases hat' with e | e
  ·
   rw [e]; exact fun h => (hrm m h).1 rfl
  ·
   rw [e, World.size_alloc, fs]; intro h; simp at h; omega
 refine ⟨d :: m :: v'.ownBlock.toList, ⟨m, v', rows ++ [⟨k, x, false⟩], putL tb k rows.length, heap_setCell_same hd2 1 v', hm2.of_block (Below.heap_setCell _ _ _ _ (fun e => hdm e.symm)), ?_, ?_, ?_, ?_, ?_, rfl, ?_, ?_, ?_⟩, ?_, ?_⟩
 ·
  have h1 : slIs w2 199 7 rowCells v' (rows ++ [⟨k, x, false⟩]) := by
   unfold slIs
   rw [List.length_append, List.flatMap_append]
   simpa using hown
  exact h1.of_block fun g hg' => Below.heap_setCell _ _ _ _ (fun e => hv'd (by rw [hg', e]))
 ·
  rw [live_append, hL]
 ·
  have := nodup_putL hn k x; rw [putL_none x hk] at this; exact this
 ·
  intro k' i
  rw [getL_putL]
  by_cases e : k' = k
  ·
   subst e
   rw [if_pos rfl]
   constructor
   ·
    intro h; cases h; exact ⟨x, by simp⟩
   ·
    rintro ⟨y, hy⟩
    by_cases hlt : i < rows.length
    ·
     rw [List.getElem?_append_left hlt] at hy
     have := (hat k' i).2 ⟨y, hy⟩
     rw [gn] at this; cases this
    ·
     have hl := (List.getElem?_eq_some_iff.1 hy).1
     simp at hl
     exact congrArg some (by omega)
  ·
   rw [if_neg e, hat]
   constructor
   ·
    rintro ⟨y, hy⟩; exact ⟨y, by rw [List.getElem?_append_left (List.getElem?_eq_some_iff.1 hy).1]; exact hy⟩
   ·
    rintro ⟨y, hy⟩
    by_cases hlt : i < rows.length
    ·
     rw [List.getElem?_append_left hlt] at hy; exact ⟨y, hy⟩
    ·
     rw [List.getElem?_append_right (by omega)] at hy
     have hl := (List.getElem?_eq_some_iff.1 hy).1
     simp at hl
     rw [hl] at hy; simp at hy; exact absurd hy.1.symm e
 ·
  rw [putL_none _ gn]; simp [hlen]
 ·
  have h1 : (d :: m :: []).Nodup := by simp [hdm]
  cases hv : v'.ownBlock with
  | none => simpa using hdm
  | some g =>
   have g1 : g ≠ d := fun e => hv'd (by rw [hv, e])
   have g2 : g ≠ m := fun e => hv'm (by rw [hv, e])
   simp [hdm, Ne.symm g1, Ne.symm g2]
 ·
  simp; omega
 ·
  simp; omega
 ·
  intro b hb
  rcases List.mem_cons.1 hb with rfl | hb
  ·
   exact .inl (by simp)
  rcases List.mem_cons.1 hb with rfl | hb
  ·
   exact .inl (by simp)
  rcases hat' with e | e
  ·
   rw [e] at hb; exact .inl (by simp [hb])
  ·
   rw [e, World.size_alloc, fs] at hb; simp at hb; exact .inr (by omega)
 ·
  refine Outside.setCell ?_ (.inl (by simp)) _
  have o1 : Outside (d :: m :: rv.ownBlock.toList) Wt f := (Outside.refl _ Wt).drew.grown f3.2 (fun b hb => by cases hb; exact .inl (by simp))
  exact (o1.alloc o).grown hg (fun b hb => .inl (by simp [hb]))
theorem put_tail2 {Wt : World} {d m : Nat} {k x : V} {ra : Option Addr} {rcap : Nat} {rows : List Row} {tb : List (V × Nat)} {L : List (V × V)} (hd : Wt.heap[d]? = some (.cells #[.map (some m), .slice ra rows.length rcap] 194)) (hm : mapIs Wt Tryz.prog 24 ekV exN m tb) (hr : slIs Wt 199 7 rowCells (.slice ra rows.length rcap) rows)
  (hL : liveRows rows = L) (hn : (L.map (·.1)).Nodup) (hat : ∀ k i, getL tb k = some i ↔ ∃ x, rows[i]? = some ⟨k, x, false⟩) (hlen : tb.length = L.length) (hnd : (d :: m :: (Value.ownBlock (.slice ra rows.length rcap)).toList).Nodup) (h4 : L.length < 4096) (h5 : rows.length ≤ 2 * 4096 + 8) (hk : getL L k = none) :
  ∃ (f w2 : World) (g' cap' : Nat), (Instr.mapUpdate 191 (.map (some m)) (.agg #[.int .i64 k.kind, .int .i64 k.n, .string k.s]) (.int .i64 rows.length)).run Tryz.prog Wt.drew = .ok () f ∧ (∀ p v, Wt.cell? p = some v → f.cell? p = some v) ∧ f.frozen? ⟨d, 1, none⟩ = false ∧
   (Builtin.append_ #[192, 192] 192 #[.slice ra rows.length rcap, .slice (some ⟨f.heap.size, 0, none⟩) 1 1]).run Tryz.prog (f.alloc (.cells #[.int .i64 k.kind, .int .i64 k.n, .string k.s, .int .i64 x.kind, .int .i64 x.n, .string x.s, .bool false] 199)).drew = .ok (.slice (some ⟨g', 0, none⟩) (rows.length + 1) cap') w2 ∧
   w2.cell? ⟨d, 1, none⟩ = some (.slice ra rows.length rcap) ∧ w2.frozen? ⟨d, 1, none⟩ = false ∧
   Hid (∃ F', DictIs (w2.setCell ⟨d, 1, none⟩ (.slice (some ⟨g', 0, none⟩) (rows.length + 1) cap')) d (L ++ [(k, x)]) F' ∧ Grow (d :: m :: (Value.ownBlock (.slice ra rows.length rcap)).toList) F' Wt ∧ Outside (d :: m :: (Value.ownBlock (.slice ra rows.length rcap)).toList) Wt (w2.setCell ⟨d, 1, none⟩ (.slice (some ⟨g', 0, none⟩) (rows.length + 1) cap'))) := by
 obtain ⟨f, hrun, fo, fr, fin⟩ := put_tail (x := x) hd hm hr hL hn hat hlen hnd h4 h5 hk
 have c0 := cellAt hd 0 (v := .map (some m)) rfl
 have fs : f.heap.size = Wt.heap.size := fo.1
 have hdm : d ≠ m := by intro e; subst e; simp at hnd
 have hfd : f.heap[d]? = some (.cells #[.map (some m), .slice ra rows.length rcap] 194) := (fo.2.block d (blockLt hd) (by simpa using hdm)).trans hd
 have fc : ∀ p v, Wt.cell? p = some v → f.cell? p = some v := fun p v hp => (World.cell?_of_block (w := Wt.drew) (fo.2.block p.block (World.block_lt_of_cell? Wt p hp) (by simpa using (hm.ne_cell hp)))).trans hp
 obtain ⟨i0, hi, iz0, iz1, iz2⟩ := info_parts info_pair
 have hml : rows.length + 1 ≤ maxLen := Nat.le_trans (show rows.length + 1 ≤ 8201 by omega) (by decide)
 have hnew := heapAllocNew f (.cells #[.int .i64 k.kind, .int .i64 k.n, .string k.s, .int .i64 x.kind, .int .i64 x.n, .string x.s, .bool false] 199)
 obtain ⟨v', w2, hap, hown, hgr, hnil, hat2⟩ := run_append_own_at (P := Tryz.prog) (w := (f.alloc (.cells #[.int .i64 k.kind, .int .i64 k.n, .string k.s, .int .i64 x.kind, .int .i64 x.n, .string x.s, .bool false] 199)).drew) 0 192 192 199 i0 _ 7 72 Tryz.underlying192 hi iz0 iz1 iz2 rfl (by decide) (.slice ra rows.length rcap) rows.length (rows.flatMap rowCells) ((fr.alloc _).drewN 1) ⟨f.heap.size, 0, none⟩ 1 1 (rowCells ⟨k, x, false⟩) rfl
  (fun j u hu => by
   have hadd : (⟨f.heap.size, 0, none⟩ : Addr).add j = ⟨f.heap.size, j, none⟩ := by unfold Addr.add; split <;> simp_all
   rw [hadd]
   exact cellAt (w := f.alloc _) hnew j (by simpa [rowCells] using hu)) (by simp [rowCells, Value.oneCell']) hml (by omega) (by omega)
 obtain ⟨g', cap', rfl⟩ : ∃ g' cap', v' = .slice (some ⟨g', 0, none⟩) (rows.length + 1) cap' := by
  rcases hown.2 with ⟨_, h⟩ | ⟨g', cap', cur, h, _⟩
  ·
   omega
  ·
   exact ⟨g', cap', h⟩
 have hw2d : w2.heap[d]? = f.heap[d]? := by
  have := hgr.block d (by have := blockLt hfd; simp; omega) (fun e => by
   have hh := hnd; rw [← e] at hh; simp at hh)
  exact this.trans (Below.heap_alloc _ _ _ (blockLt hfd))
 exact ⟨f, w2, g', cap', hrun, fc, frozenAt hfd 1, hap, cellAt (hw2d.trans hfd) 1 rfl, frozenAt (hw2d.trans hfd) 1, fin _ _ w2 hown ⟨hgr.os, hgr.tape, hgr.output, hgr.size, hgr.block⟩ hat2⟩
theorem dict_put_new (w : World) (d : Nat) (L : List (V × V)) (F : List Nat) (k x : V) (h : DictIs w d L F) (hy : getL L k = none) (hk : k.isKey = true) (hl : L.length < 4096) : Calls Tryz.prog 134 #[.pointer (some ⟨d, 0, none⟩), k.val, x.val] w fun e w' =>
  e = .returned (.bool true) ∧ ∃ F', DictIs w' d (L ++ [(k, x)]) F' ∧ Grow F F' w ∧ Outside F w w' := by
 obtain ⟨m, rv, rows, tb, hd, hm, hr, hL, hn, hat, hlen, rfl, hnd, h4, h5⟩ := h
 have c0 := cellAt hd 0 (v := .map (some m)) rfl
 have dlt := blockLt hd
 have mlt := hm.lt
 obtain ⟨kl, hkl⟩ := keyOfV k
 have hz : ∀ W, (zeroValue 3).run Tryz.prog W = .ok (.int .i64 0) W := fun W => Tryz.zeroValue3 W
 obtain ⟨g1, g2⟩ : getL tb k = none ∧ getL L k = none := by
  rcases dict_look hL hn hat k with ⟨g1, g2⟩ | ⟨i, y', g1, g2, g3⟩
  ·
   exact ⟨g1, g2⟩
  ·
   rw [hy] at g2; cases g2
 have hlk : ∀ o o', (Instr.lookup 191 (.map (some m)) (.agg #[.int .i64 k.kind, .int .i64 k.n, .string k.s]) true).run Tryz.prog ((w.alloc o).alloc o').drew = .ok (.tuple #[.int .i64 0, .bool false]) ((w.alloc o).alloc o').drew := fun o o' => by
  have := (((hm.alloc o).alloc o').drewN 1).look ekV_inj keyV Tryz.underlying191 (hz _) hkl true
  rw [g1] at this; exact this
 obtain ⟨ra, rcap, rfl⟩ := hr.form
 have HM := Lib.hid hm
 have HD := Lib.hid hd
 have HR := Lib.hid hr
 have HL := Lib.hid hL
 have HN := Lib.hid hn
 have HA := Lib.hid hat
 have HND := Lib.hid hnd
 have HG := Lib.hid g1
 have hy0 := Lib.hid g2
 have htl : tb.length < 4096 := by omega
 clear hd hm hr hL hn hat hy g1 g2 hz hkl hnd
 simp only [V.val]
 go_enter Tryz.func134, Tryz.ntmps134
 go_wp2_with fail
 go_region
 go_wp2_with fail
 refine (dict_key _ k).mono ?_
 rintro e w1 ⟨rfl, hb⟩
 rw [hk]
 have hk1 : ∀ b, b < w.heap.size → w1.heap[b]? = w.heap[b]? := fun b hb' => (hb.block b (by simp; omega)).trans ((((Outside.refl [] w).alloc _).alloc _).drew.block b hb' (by simp))
 have hd1 := (hk1 d dlt).trans HD.out
 have hm1 := HM.out.of_block (hk1 m mlt)
 have hr1 := HR.out.of_block (w' := w1) (fun g hg => hk1 g (HR.out.lt g hg))
 have c1 := cellAt hd1 0 (v := .map (some m)) rfl
 have c2 := cellAt hd1 1 (v := .slice ra rows.length rcap) rfl
 have hln := lenRun hm1
 have hln2 : ∀ ty, (Builtin.len_ #[191] ty #[.map (some m)]).run Tryz.prog w1.drew = .ok (.int .i64 tb.length) w1.drew := lenRun (hm1.drewN 1)
 have hB : Below w.heap.size w w1 := (((Below.refl w.heap.size w).alloc (Nat.le_refl _) _).alloc (by simp) _).drew.trans (hb.mono (by simp; omega))
 have HB := Lib.hid hB
 have HD1 := Lib.hid hd1
 have HM1 := Lib.hid hm1
 have HR1 := Lib.hid hr1
 have bx : w1.cell? ⟨w.heap.size, 0, none⟩ = some (.int .i64 k.kind) ∧ w1.cell? ⟨w.heap.size, 1, none⟩ = some (.int .i64 k.n) ∧ w1.cell? ⟨w.heap.size, 2, none⟩ = some (.string k.s) ∧ w1.cell? ⟨w.heap.size + 1, 0, none⟩ = some (.int .i64 x.kind) ∧ w1.cell? ⟨w.heap.size + 1, 1, none⟩ = some (.int .i64 x.n) ∧ w1.cell? ⟨w.heap.size + 1, 2, none⟩ = some (.string x.s) := by
  have q1 : ((w.alloc (.cells #[.int .i64 k.kind, .int .i64 k.n, .string k.s] 24)).alloc (.cells #[.int .i64 x.kind, .int .i64 x.n, .string x.s] 24)).heap[w.heap.size]? = some (.cells #[.int .i64 k.kind, .int .i64 k.n, .string k.s] 24) := blockAlloc (heapAllocNew w _)
  have q2 : ((w.alloc (.cells #[.int .i64 k.kind, .int .i64 k.n, .string k.s] 24)).alloc (.cells #[.int .i64 x.kind, .int .i64 x.n, .string x.s] 24)).heap[w.heap.size + 1]? = some (.cells #[.int .i64 x.kind, .int .i64 x.n, .string x.s] 24) := by
   have := heapAllocNew (w.alloc (.cells #[.int .i64 k.kind, .int .i64 k.n, .string k.s] 24)) (.cells #[.int .i64 x.kind, .int .i64 x.n, .string x.s] 24)
   rwa [World.size_alloc] at this
  have b1 : w1.heap[w.heap.size]? = some (.cells #[.int .i64 k.kind, .int .i64 k.n, .string k.s] 24) := (hb.block w.heap.size (by simp; omega)).trans q1
  have b2 : w1.heap[w.heap.size + 1]? = some (.cells #[.int .i64 x.kind, .int .i64 x.n, .string x.s] 24) := (hb.block (w.heap.size + 1) (by simp)).trans q2
  exact ⟨cellAt b1 0 rfl, cellAt b1 1 rfl, cellAt b1 2 rfl, cellAt b2 0 rfl, cellAt b2 1 rfl, cellAt b2 2 rfl⟩
 obtain ⟨bx0, bx1, bx2, by0, by1, by2⟩ := bx
 have hs1 : w.heap.size + 2 ≤ w1.heap.size := by have := hb.size; simpa using this
 clear hk1 hd1 hB hb hm1 hr1
 obtain ⟨z, hz⟩ : ∃ z : Int, (tb.length : Int) = z := ⟨_, rfl⟩
 rw [hz] at hln hln2
 have hz0 : 0 ≤ z := by omega
 have hz1 : z < 4096 := by omega
 by_cases hpk : 2 * z + 8 < rows.length
 ·
  obtain ⟨g, rfl⟩ : ∃ g, ra = some ⟨g, 0, none⟩ := by
   rcases HR1.out.shape with ⟨h1, h2⟩ | ⟨g, cap, h1, _⟩
   ·
    rw [h2] at hpk; simp at hpk; omega
   ·
    cases h1; exact ⟨g, rfl⟩
  have hdg : d ≠ g := by intro e; subst e; have := HND.out; simp [Value.ownBlock] at this
  have HPK := Lib.hid (dict_pack w1.drew d m g rcap rows tb HD1.out (HM1.out.drewN 1) (HR1.out.drewN 1) (by rw [HL.out]; exact HN.out) HA.out (by omega) hdg)
  have HZ := Lib.hid hz
  have HLEN := Lib.hid hlen
  have HTL := Lib.hid htl
  have HLL := Lib.hid hl
  clear hz hlen htl hl h4
  go_wp2_with fail
  go_region
  go_wp2_with fail
  refine HPK.out.mono ?_
  rintro e w3 ⟨⟨v, rfl⟩, tb', hd3, hm3, hr3, hat3, hlen3, ho3⟩
  have hlv : liveRows (rows.filter (!·.gone)) = L := by
   rw [live_filter, List.filter_filter]
   simp only [Bool.and_self]
   rw [← live_filter, HL.out]
  have hrl : (rows.filter (!·.gone)).length = L.length := by
   have := congrArg List.length (live_filter rows)
   rw [HL.out, List.length_map] at this; exact this.symm
  generalize rows.filter (!·.gone) = rs at hd3 hr3 hat3 hlv hrl
  obtain ⟨f, w2, g', cap', hrun, fc, fz, hap, u2, u2z, FIN⟩ := put_tail2 (Wt := w3) (k := k) (x := x) hd3 hm3 hr3 hlv HN.out hat3 (hlen3.trans HLEN.out) HND.out HLL.out (by have := HLL.out; omega) hy0.out
  have glt := HR.out.lt g rfl
  have hbx : ∀ p v, w.heap.size ≤ p.block → w1.cell? p = some v → w3.cell? p = some v := fun p v hp hc => ho3.cell (show w1.drew.cell? p = some v from hc) (by simp; omega)
  have x0 := hbx _ _ (Nat.le_refl _) bx0
  have x1 := hbx _ _ (Nat.le_refl _) bx1
  have x2 := hbx _ _ (Nat.le_refl _) bx2
  have y0 := hbx _ _ (Nat.le_succ _) by0
  have y1 := hbx _ _ (Nat.le_succ _) by1
  have y2 := hbx _ _ (Nat.le_succ _) by2
  have cc1 := cellAt hd3 0 (v := .map (some m)) rfl
  have cc2 := cellAt hd3 1 (v := .slice (some ⟨g, 0, none⟩) rs.length rcap) rfl
  have e1 := fc _ _ cc1
  have e2 := fc _ _ cc2
  have ex0 := fc _ _ x0
  have ex1 := fc _ _ x1
  have ex2 := fc _ _ x2
  have ey0 := fc _ _ y0
  have ey1 := fc _ _ y1
  have ey2 := fc _ _ y2
  have df := World.block_lt_of_cell? f _ e1
  have xf := World.block_lt_of_cell? f _ ex0
  have yf := World.block_lt_of_cell? f _ ey0
  simp only at df xf yf
  have HO3 := Lib.hid ho3
  have HRL := Lib.hid hrl
  have hr4 : rs.length ≤ 4096 := by have := HLL.out; omega
  clear fc hd3 hm3 hr3 hat3 hlen3 ho3 hlv hrl hbx c1 c2 hln hln2 hlk bx0 bx1 bx2 by0 by1 by2 HPK
  go_wp2_with fail
  go_region
  go_wp2_with fail
  clear hrun cc1 cc2 x0 x1 x2 y0 y1 y2
  go_region_law (refine step_append_run (by rfl) _ _ _ (by rfl) (by rfl) (by rfl) hap ?_)
  all_goals go_wp2_with fail
  all_goals go_returns
  all_goals (
   obtain ⟨F', h1, h2, h3⟩ := FIN.out
   have hsz := HO3.out.size
   have o3 : Outside (d :: m :: Option.toList (Value.ownBlock (.slice (some ⟨g, 0, none⟩) rows.length rcap))) w w3 := ((Outside.of_below HB.out _).drew).trans HO3.out (fun b hb => .inl (by simpa [Value.ownBlock] using hb))
   exact ⟨rfl, F', h1, fun b hb => (h2 b hb).imp id (fun h => Nat.le_trans o3.size h), o3.trans h3 (Grow.refl _ _)⟩)
 ·
  have h6 : rows.length ≤ 2 * 4096 + 8 := by omega
  obtain ⟨f, w2, g', cap', hrun, fc, fz, hap, u2, u2z, FIN⟩ := put_tail2 (Wt := w1.drew) (k := k) (x := x) HD1.out (HM1.out.drewN 1) (HR1.out.drewN 1) HL.out HN.out HA.out hlen HND.out hl h6 hy0.out
  have e1 := fc _ _ c1
  have e2 := fc _ _ c2
  have ex0 := fc _ _ bx0
  have ex1 := fc _ _ bx1
  have ex2 := fc _ _ bx2
  have ey0 := fc _ _ by0
  have ey1 := fc _ _ by1
  have ey2 := fc _ _ by2
  have df := World.block_lt_of_cell? f _ e1
  have xf := World.block_lt_of_cell? f _ ex0
  have yf := World.block_lt_of_cell? f _ ey0
  simp only at df xf yf
  clear htl hz hl hlen h4 fc
  go_wp2_with fail
  go_region
  go_wp2_with fail
  go_region
  go_wp2_with fail
  clear hrun hlk hln hln2 c1 c2 bx0 bx1 bx2 by0 by1 by2
  go_region_law (refine step_append_run (by rfl) _ _ _ (by rfl) (by rfl) (by rfl) hap ?_)
  all_goals go_wp2_with fail
  all_goals go_returns
  all_goals (
   obtain ⟨F', h1, h2, h3⟩ := FIN.out
   exact ⟨rfl, F', h1, fun b hb => (h2 b hb).imp id (fun h => Nat.le_trans HB.out.size h), (Outside.of_below HB.out _).drew.trans h3 (Grow.refl _ _)⟩)
end Go.Proofs.YtijlebhoapdfnaaGreat
/- Dicts: Put, Del. -/
namespace Go.Proofs.YtijlebhoapdfnaaGreat
set_option linter.unusedSimpArgs false
open Go.RowKit
set_option linter.unusedVariables false
def putOk (L : List (V × V)) (k : V) : Bool := (getL L k).isSome || (k.isKey && decide (L.length < 4096))
theorem dict_put (w : World) (d : Nat) (L : List (V × V)) (F : List Nat) (k x : V) (h : DictIs w d L F) : Calls Tryz.prog 134 #[.pointer (some ⟨d, 0, none⟩), k.val, x.val] w fun e w' =>
  e = .returned (.bool (putOk L k)) ∧ ∃ F', DictIs w' d (if putOk L k then putL L k x else L) F' ∧ Grow F F' w ∧ Outside F w w' := by
 have h4 : L.length ≤ 4096 := by obtain ⟨m, rv, rows, tb, hd, hm, hr, hL, hn, hat, hlen, rfl, hnd, h4, h5⟩ := h; exact h4
 cases hg : getL L k with
 | some y =>
  have e : putOk L k = true := by simp [putOk, hg]
  rw [e, if_pos rfl]
  exact (dict_put_there w d L F k x y h hg).mono fun e w' ⟨h1, h2, h3⟩ => ⟨h1, F, h2, Grow.refl _ _, h3⟩
 | none =>
  by_cases hk : k.isKey = true ∧ L.length < 4096
  ·
   have e : putOk L k = true := by simp [putOk, hg, hk.1, hk.2]
   rw [e, if_pos rfl, putL_none x hg]
   exact dict_put_new w d L F k x h hg hk.1 hk.2
  ·
   have e : putOk L k = false := by
    cases hb : k.isKey with
    | false => simp [putOk, hg, hb]
    | true => have : ¬ L.length < 4096 := fun h => hk ⟨hb, h⟩
              simp [putOk, hg, hb, this]
   rw [e, if_neg (by simp)]
   exact (dict_put_no w d L F k x h hg (by
    cases hb : k.isKey with
    | false => exact .inl rfl
    | true => exact .inr (by have : ¬ L.length < 4096 := fun h => hk ⟨hb, h⟩
                             omega))).mono fun e w' ⟨h1, h2⟩ => ⟨h1, F, h.below h2, Grow.refl _ _, Outside.of_below h2 _⟩
theorem delL_length {K X : Type} [DecidableEq K] {l : List (K × X)} (hn : (l.map (·.1)).Nodup) {k : K} {x : X} (h : getL l k = some x) : (delL l k).length + 1 = l.length := by
 obtain ⟨j, hj⟩ := List.getElem?_of_mem (getL_mem h)
 have hl := (List.getElem?_eq_some_iff.1 hj).1
 rw [← erase_eq_filter hn hj, List.length_eraseIdx_of_lt hl]; omega
def Row.out : Row := ⟨V.zero, V.zero, true⟩
end Go.Proofs.YtijlebhoapdfnaaGreat
