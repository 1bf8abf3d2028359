/- A map's block, as a list of keys and values in the block's own order. -/
import Derived.Test.YtijlebhoapdfnaaGreatProg
import Derived.WalkKit
import Derived.Maps.OwnSet
import Derived.Maps.Range
import Derived.OwnWalk
import Derived.Maps.RangeWalk
namespace Go.Proofs.YtijlebhoapdfnaaGreat
set_option linter.unusedSimpArgs false
open Go.ChangeMaps (setBlock) 
open Go.MapKept (Stamped stamped_push stamped_modify stamped_erase)
open Go.Maps (Keyed)
set_option linter.unusedVariables false
set_option linter.unusedSectionVars false
section
variable {K X : Type} [DecidableEq K]
def getL (l : List (K × X)) (k : K) : Option X := (l.find? fun p => decide (p.1 = k)).map (·.2)
def putL (l : List (K × X)) (k : K) (x : X) : List (K × X) := if (getL l k).isSome then l.map (fun p => if p.1 = k then (k, x) else p) else l ++ [(k, x)]
def delL (l : List (K × X)) (k : K) : List (K × X) := l.filter fun p => !decide (p.1 = k)
theorem getL_none {l : List (K × X)} {k : K} : getL l k = none ↔ ∀ p ∈ l, p.1 ≠ k := by simp [getL]
theorem getL_of_get {l : List (K × X)} (hn : (l.map (·.1)).Nodup) {j : Nat} {k : K} {x : X} (h : l[j]? = some (k, x)) : getL l k = some x := by
 induction l generalizing j with
 | nil => simp at h
 | cons p r ih =>
  simp only [List.map_cons, List.nodup_cons] at hn
  cases j with
  | zero => simp at h; subst h; simp [getL]
  | succ j =>
   simp at h
   have : p.1 ≠ k := fun e => hn.1 (List.mem_map.2 ⟨(k, x), List.mem_of_getElem? h, e.symm⟩)
   have e1 : getL (p :: r) k = getL r k := by simp [getL, this]
   rw [e1]; exact ih hn.2 h
theorem getL_mem {l : List (K × X)} {k : K} {x : X} (h : getL l k = some x) : (k, x) ∈ l := by
 simp only [getL, Option.map_eq_some_iff] at h
 obtain ⟨p, hp, rfl⟩ := h
 have h1 := List.mem_of_find?_eq_some hp
 have h2 := List.find?_some hp
 simp at h2; subst h2; exact h1
theorem getL_of_mem {l : List (K × X)} (hn : (l.map (·.1)).Nodup) {k : K} {x : X} (h : (k, x) ∈ l) : getL l k = some x := by
 obtain ⟨j, hj⟩ := List.getElem?_of_mem h; exact getL_of_get hn hj
theorem set_eq_map {l : List (K × X)} (hn : (l.map (·.1)).Nodup) {j : Nat} {k : K} {x x' : X} (h : l[j]? = some (k, x)) : l.set j (k, x') = l.map (fun p => if p.1 = k then (k, x') else p) := by
 induction l generalizing j with
 | nil => simp
 | cons p r ih =>
  simp only [List.map_cons, List.nodup_cons] at hn
  cases j with
  | zero =>
   simp at h; subst h
   have : r.map (fun p => if p.1 = k then (k, x') else p) = r := by
    conv => rhs; rw [← List.map_id' r]
    refine List.map_congr_left fun q hq => if_neg fun e => hn.1 (List.mem_map.2 ⟨q, hq, e⟩)
   simp [this]
  | succ j =>
   simp at h
   have : p.1 ≠ k := fun e => hn.1 (List.mem_map.2 ⟨(k, x), List.mem_of_getElem? h, e.symm⟩)
   simp [this, ih hn.2 h]
theorem erase_eq_filter {l : List (K × X)} (hn : (l.map (·.1)).Nodup) {j : Nat} {k : K} {x : X} (h : l[j]? = some (k, x)) : l.eraseIdx j = delL l k := by
 induction l generalizing j with
 | nil => simp at h
 | cons p r ih =>
  simp only [List.map_cons, List.nodup_cons] at hn
  cases j with
  | zero =>
   simp at h; subst h
   have : ∀ q ∈ r, q.1 ≠ k := fun q hq e => hn.1 (List.mem_map.2 ⟨q, hq, e⟩)
   simp only [List.eraseIdx_zero, List.tail_cons, delL]
   rw [List.filter_cons_of_neg (by simp), List.filter_eq_self.2 (fun q hq => by simp [this q hq])]
  | succ j =>
   simp at h
   have : p.1 ≠ k := fun e => hn.1 (List.mem_map.2 ⟨(k, x), List.mem_of_getElem? h, e.symm⟩)
   simp only [List.eraseIdx_cons_succ, delL]
   rw [List.filter_cons_of_pos (by simp [this]), ih hn.2 h]; rfl
theorem delL_none {l : List (K × X)} {k : K} (h : getL l k = none) : delL l k = l := by
 rw [getL_none] at h
 exact List.filter_eq_self.2 fun p hp => by simp [h p hp]
theorem putL_none {l : List (K × X)} {k : K} (x : X) (h : getL l k = none) : putL l k x = l ++ [(k, x)] := by simp [putL, h]
theorem putL_some {l : List (K × X)} {k : K} {x0 : X} (x : X) (h : getL l k = some x0) : putL l k x = l.map (fun p => if p.1 = k then (k, x) else p) := by simp [putL, h]
theorem getL_putL (l : List (K × X)) (k : K) (x : X) (k' : K) : getL (putL l k x) k' = if k' = k then some x else getL l k' := by
 cases h : getL l k with
 | none =>
  rw [putL_none x h]
  by_cases e : k' = k
  ·
   subst e
   rw [getL_none] at h
   have : l.find? (fun p => decide (p.1 = k')) = none := by simpa using h
   simp [getL, this]
  ·
   simp [getL, List.find?_append, e, Ne.symm e]
 | some x0 =>
  rw [putL_some x h]
  by_cases e : k' = k
  ·
   subst e
   simp only [if_true]
   induction l with
   | nil => simp [getL] at h
   | cons p r ih =>
    by_cases ep : p.1 = k'
    ·
     simp [getL, ep]
    ·
     have e1 : getL (p :: r) k' = getL r k' := by simp [getL, ep]
     rw [e1] at h
     have := ih h
     simp only [List.map_cons, if_neg ep]
     simp only [getL] at this ⊢
     rw [List.find?_cons_of_neg (by simp [ep])]; exact this
  ·
   simp only [if_neg e]
   clear h
   induction l with
   | nil => rfl
   | cons p r ih =>
    by_cases ep : p.1 = k
    ·
     have : ¬ p.1 = k' := fun h => e (h.symm.trans ep)
     simp only [List.map_cons, if_pos ep, getL] at ih ⊢
     rw [List.find?_cons_of_neg (by simp [Ne.symm e]), List.find?_cons_of_neg (by simp [this])]; exact ih
    ·
     simp only [List.map_cons, if_neg ep, getL] at ih ⊢
     simp only [List.find?_cons]
     split
     ·
      rfl
     ·
      exact ih
theorem getL_delL (l : List (K × X)) (k : K) (k' : K) : getL (delL l k) k' = if k' = k then none else getL l k' := by
 by_cases e : k' = k
 ·
  subst e; rw [if_pos rfl, getL_none]; intro p hp; simpa [delL] using (List.mem_filter.1 hp).2
 ·
  rw [if_neg e]
  induction l with
  | nil => rfl
  | cons p r ih =>
   by_cases ep : p.1 = k
   ·
    have h1 : ¬ p.1 = k' := fun h => e (h.symm.trans ep)
    simp only [delL, getL] at ih ⊢
    rw [List.filter_cons_of_neg (by simp [ep]), List.find?_cons_of_neg (by simp [h1])]; exact ih
   ·
    simp only [delL, getL] at ih ⊢
    rw [List.filter_cons_of_pos (by simp [ep])]
    simp only [List.find?_cons]
    split
    ·
     rfl
    ·
     exact ih
theorem keys_putL (l : List (K × X)) (k : K) (x : X) : (putL l k x).map (·.1) = if (getL l k).isSome then l.map (·.1) else l.map (·.1) ++ [k] := by
 cases h : getL l k with
 | none => rw [putL_none x h]; simp
 | some x0 =>
  rw [putL_some x h]
  simp only [Option.isSome_some, if_true, List.map_map]
  refine List.map_congr_left fun p _ => ?_
  simp only [Function.comp]
  split <;> simp_all
theorem nodup_putL {l : List (K × X)} (hn : (l.map (·.1)).Nodup) (k : K) (x : X) : ((putL l k x).map (·.1)).Nodup := by
 rw [keys_putL]
 cases h : getL l k with
 | some x0 => simpa using hn
 | none =>
  rw [getL_none] at h
  simp only [Option.isSome_none, Bool.false_eq_true, if_false]
  rw [List.nodup_append]
  refine ⟨hn, by simp, ?_⟩
  intro a ha b hb e
  simp at hb; subst hb; subst e
  obtain ⟨p, hp, e⟩ := List.mem_map.1 ha
  exact h p hp e
theorem nodup_delL {l : List (K × X)} (hn : (l.map (·.1)).Nodup) (k : K) : ((delL l k).map (·.1)).Nodup := (List.filter_sublist.map _).nodup hn
end
section
variable {K X : Type} [DecidableEq K] {P : Program} {w w' : World} {kt : TypeId} {ek : K → Value} {ex : X → Value} {b : Nat} {l : List (K × X)}
/-- Block b is a map that holds just l, in its entries' order. -/
def mapIs (w : World) (P : Program) (kt : TypeId) (ek : K → Value) (ex : X → Value) (b : Nat) (l : List (K × X)) : Prop :=
 ∃ es clock, w.heap[b]? = some (.map es clock) ∧ Stamped es clock ∧ (∀ p ∈ l, ∃ kl, keyOf P kt (ek p.1) = some kl) ∧ es.toList.map (fun e => (e.key, e.val)) = l.map fun p => (ek p.1, ex p.2)
theorem mapIs.lt (h : mapIs w P kt ek ex b l) : b < w.heap.size := by
 obtain ⟨es, clock, hb, _⟩ := h; exact (Array.getElem?_eq_some_iff.1 hb).1
theorem mapIs.of_block (h : mapIs w P kt ek ex b l) (e : w'.heap[b]? = w.heap[b]?) : mapIs w' P kt ek ex b l := by
 obtain ⟨es, clock, hb, r⟩ := h; exact ⟨es, clock, e.trans hb, r⟩
theorem mapIs_made (w : World) (P : Program) (kt : TypeId) (ek : K → Value) (ex : X → Value) : mapIs (w.alloc (.map #[] 0)) P kt ek ex w.heap.size [] :=
 ⟨#[], 0, (MapKept.heap_alloc w _).1, MapKept.stamped_empty 0, by simp, by simp⟩
theorem mapIs.nodup (h : mapIs w P kt ek ex b l) : (l.map (·.1)).Nodup := by
 obtain ⟨es, clock, hb, hs, hk, hl⟩ := h
 have h3 := hs.2.2
 have e1 : es.toList.map (·.key) = (l.map (·.1)).map ek := by
  have := congrArg (List.map (·.1)) hl
  simpa [List.map_map, Function.comp_def] using this
 rw [e1] at h3
 unfold List.Nodup at h3 ⊢
 rw [List.pairwise_map] at h3
 exact h3.imp fun h e => h (by rw [e])
/-- Where a key is found. -/
theorem mapIs.find (h : mapIs w P kt ek ex b l) (hinj : ∀ a b, ek a = ek b → a = b) (KL : Keyed P kt) {k : K} {kl : Lit} (hkey : keyOf P kt (ek k) = some kl) :
  ∃ es clock, w.heap[b]? = some (.map es clock) ∧ Stamped es clock ∧ (∀ p ∈ l, ∃ kl, keyOf P kt (ek p.1) = some kl) ∧ es.toList.map (fun e => (e.key, e.val)) = (l.map fun p => (ek p.1, ex p.2)) ∧
   (((Instr.findKey kt (ek k) es.toList).run P w = .ok none w ∧ getL l k = none ∧ ∀ x ∈ es.toList, x.key ≠ ek k) ∨
    ∃ j x e0, (Instr.findKey kt (ek k) es.toList).run P w = .ok (some (j, ex x)) w ∧ l[j]? = some (k, x) ∧ es.toList[j]? = some e0 ∧ e0.key = ek k ∧ e0.val = ex x ∧ getL l k = some x) := by
 have hn := h.nodup
 obtain ⟨es, clock, hb, hs, hk, hl⟩ := h
 refine ⟨es, clock, hb, hs, hk, hl, ?_⟩
 have hkeys : ∀ e ∈ es.toList, ∃ l, keyOf P kt e.key = some l := by
  intro e he
  have : (e.key, e.val) ∈ l.map fun p => (ek p.1, ex p.2) := hl ▸ List.mem_map.2 ⟨e, he, rfl⟩
  obtain ⟨p, hp, e1⟩ := List.mem_map.1 this
  have : e.key = ek p.1 := (congrArg Prod.fst e1).symm
  rw [this]; exact hk p hp
 rcases KL.find w hkey es.toList hkeys with ⟨h1, h2⟩ | ⟨j, e0, h1, h2, h3⟩
 ·
  refine .inl ⟨h1, ?_, h2⟩
  rw [getL_none]
  intro p hp e
  have : (ek p.1, ex p.2) ∈ es.toList.map (fun e => (e.key, e.val)) := hl ▸ List.mem_map.2 ⟨p, hp, rfl⟩
  obtain ⟨q, hq, e1⟩ := List.mem_map.1 this
  exact h2 q hq ((congrArg Prod.fst e1).trans (by rw [e]))
 ·
  have e1 : (es.toList.map (fun e => (e.key, e.val)))[j]? = some (e0.key, e0.val) := by simp only [List.getElem?_map, h2, Option.map_some]
  rw [hl, List.getElem?_map] at e1
  obtain ⟨p, hp, e2⟩ := Option.map_eq_some_iff.1 e1
  have hk0 : p.1 = k := hinj _ _ ((congrArg Prod.fst e2).trans h3)
  have hv0 : ex p.2 = e0.val := congrArg Prod.snd e2
  have hp' : l[j]? = some (k, p.2) := by rw [hp, ← hk0]
  refine .inr ⟨j, p.2, e0, ?_, hp', h2, h3, hv0.symm, getL_of_get hn hp'⟩
  rw [hv0]; exact h1
theorem mapIs.look (h : mapIs w P kt ek ex b l) (hinj : ∀ a b, ek a = ek b → a = b) (KL : Keyed P kt) {t et : TypeId} (ht : P.underlying t = some (.map kt et)) {z : Value} (hz : (zeroValue et).run P w = .ok z w)
  {k : K} {kl : Lit} (hkey : keyOf P kt (ek k) = some kl) (c : Bool) :
  (Instr.lookup t (.map (some b)) (ek k) c).run P w = .ok (match getL l k with | some x => (if c then .tuple #[ex x, .bool true] else ex x) | none => (if c then .tuple #[z, .bool false] else z)) w := by
 obtain ⟨es, clock, hb, hs, hk, hl, ⟨h1, h2, _⟩ | ⟨j, x, e0, h1, h2, h3, h4, h5, h6⟩⟩ := h.find hinj KL hkey
 ·
  rw [h2]; simp [Instr.lookup, run_underlying ht, MapKept.run_getObj_map hb, KL.check w _ hkey, h1, hz, Result.andThen]
 ·
  rw [h6]; simp [Instr.lookup, run_underlying ht, MapKept.run_getObj_map hb, KL.check w _ hkey, h1, Result.andThen]
/-- Just block b is another one. -/
def onlyAt (w w' : World) (b : Nat) : Prop := w'.heap.size = w.heap.size ∧ w.grownBy w' (some b)
theorem onlyAt_setBlock {es es' : Array MapEntry} {clock clock' : Nat} (hb : w.heap[b]? = some (.map es clock)) : onlyAt w (setBlock w b (.map es' clock')) b :=
 ⟨by simp [setBlock], rfl, rfl, rfl, by simp [setBlock], fun i _ hi => ChangeMaps.heap_setBlock_other hb _ (fun e => hi (by rw [e]))⟩
theorem mapIs.update (h : mapIs w P kt ek ex b l) (hinj : ∀ a b, ek a = ek b → a = b) (KL : Keyed P kt) {t et : TypeId} (ht : P.underlying t = some (.map kt et)) {k : K} {kl : Lit} (hkey : keyOf P kt (ek k) = some kl) (x : X) :
  ∃ w', (Instr.mapUpdate t (.map (some b)) (ek k) (ex x)).run P w = .ok () w' ∧ mapIs w' P kt ek ex b (putL l k x) ∧ onlyAt w w' b := by
 have hn := h.nodup
 obtain ⟨es, clock, hb, hs, hk, hl, ⟨h1, h2, h2'⟩ | ⟨j, x0, e0, h1, h2, h3, h4, h5, h6⟩⟩ := h.find hinj KL hkey
 ·
  refine ⟨setBlock w b (.map (es.push ⟨ek k, ex x, clock⟩) (clock + 1)), ?_, ⟨_, _, ChangeMaps.heap_setBlock_same hb _, stamped_push hs h2', ?_, ?_⟩, onlyAt_setBlock hb⟩
  ·
   simp [Instr.mapUpdate, run_underlying ht, MapKept.run_getObj_map hb, KL.check w false hkey, h1, MapKept.run_setObj_map _ hb, Result.andThen, setBlock]
  ·
   rw [putL_none x h2]
   intro p hp
   rcases List.mem_append.1 hp with hp | hp
   ·
    exact hk p hp
   ·
    simp at hp; subst hp; exact ⟨kl, hkey⟩
  ·
   rw [putL_none x h2]; simp [hl]
 ·
  have hj : es[j]? = some e0 := by simpa using h3
  have hjl : j < es.toList.length := (List.getElem?_eq_some_iff.1 h3).1
  refine ⟨setBlock w b (.map (es.modify j (fun e' => { e' with key := ek k, val := ex x })) clock), ?_, ⟨_, _, ChangeMaps.heap_setBlock_same hb _, stamped_modify hs _ _ (fun _ _ => rfl) (fun e' _ he' => ?_), ?_, ?_⟩, onlyAt_setBlock hb⟩
  ·
   simp [Instr.mapUpdate, run_underlying ht, MapKept.run_getObj_map hb, KL.check w false hkey, h1, hj, h4, KL.stays w hkey, MapKept.run_setObj_map _ hb, Result.andThen, setBlock]
  ·
   rw [hj] at he'; cases he'; exact h4.symm
  ·
   rw [putL_some x h6]
   intro p hp
   obtain ⟨q, hq, rfl⟩ := List.mem_map.1 hp
   split
   ·
    exact ⟨kl, hkey⟩
   ·
    exact hk q hq
  ·
   rw [putL_some x h6, ← set_eq_map hn h2, Array.toList_modify, ChangeMaps.modify_eq_set _ _ _ _ h3, List.map_set, List.map_set, hl]
theorem mapIs.drop (h : mapIs w P kt ek ex b l) (hinj : ∀ a b, ek a = ek b → a = b) (KL : Keyed P kt) {t et : TypeId} (ht : P.underlying t = some (.map kt et)) {k : K} {kl : Lit} (hkey : keyOf P kt (ek k) = some kl) (ty : TypeId) :
  ∃ w', (Builtin.delete_ #[t, kt] ty #[.map (some b), ek k]).run P w = .ok (.tuple #[]) w' ∧ mapIs w' P kt ek ex b (delL l k) ∧ onlyAt w w' b := by
 have hn := h.nodup
 obtain ⟨es, clock, hb, hs, hk, hl, ⟨h1, h2, h2'⟩ | ⟨j, x0, e0, h1, h2, h3, h4, h5, h6⟩⟩ := h.find hinj KL hkey
 ·
  refine ⟨setBlock w b (.map es clock), ?_, ⟨_, _, ChangeMaps.heap_setBlock_same hb _, hs, ?_, ?_⟩, onlyAt_setBlock hb⟩
  ·
   simp [Builtin.delete_, run_underlying ht, MapKept.run_getObj_map hb, KL.check w _ hkey, h1, MapKept.run_setObj_map _ hb, Result.andThen, setBlock]
  ·
   rw [delL_none h2]; exact hk
  ·
   rw [delL_none h2]; exact hl
 ·
  have hjl : j < es.toList.length := (List.getElem?_eq_some_iff.1 h3).1
  have hjs : j < es.size := by simpa using hjl
  have hsub : (es.eraseIdxIfInBounds j).toList = es.toList.eraseIdx j := by
   unfold Array.eraseIdxIfInBounds
   rw [dif_pos hjs]
   simp
  refine ⟨setBlock w b (.map (es.eraseIdxIfInBounds j) clock), ?_, ⟨_, _, ChangeMaps.heap_setBlock_same hb _, stamped_erase hs _, ?_, ?_⟩, onlyAt_setBlock hb⟩
  ·
   simp [Builtin.delete_, run_underlying ht, MapKept.run_getObj_map hb, KL.check w _ hkey, h1, MapKept.run_setObj_map _ hb, Result.andThen, setBlock]
  ·
   intro p hp; exact hk p (List.mem_filter.1 hp).1
  ·
   rw [← erase_eq_filter hn h2, hsub, ChangeMaps.map_eraseIdx, ChangeMaps.map_eraseIdx, hl]
theorem mapIs.len (h : mapIs w P kt ek ex b l) {t et : TypeId} (ht : P.underlying t = some (.map kt et)) (ty : TypeId) : (Builtin.len_ #[t] ty #[.map (some b)]).run P w = .ok (.int .i64 l.length) w := by
 obtain ⟨es, clock, hb, hs, hk, hl⟩ := h
 have : es.size = l.length := by have := congrArg List.length hl; simpa using this
 simp [Builtin.len_, run_underlying ht, MapKept.run_getObj_map hb, Result.andThen, this, goInt]
end
section
variable {K X : Type} [DecidableEq K] {P : Program} {w : World} {kt : TypeId} {ek : K → Value} {ex : X → Value} {b : Nat} {l : List (K × X)} {ops : Array Oper} {rest : List Oper} {o : Oper} {a : Act} {Q : Exit → Act → World → Prop}
end

theorem filter_eq_erase {α : Type} (f : α → Nat) {L : List α} (hn : (L.map f).Nodup) {j : Nat} {e : α} (h : L[j]? = some e) : L.filter (fun x => !(f x == f e)) = L.eraseIdx j := by
 induction L generalizing j with
 | nil => simp at h
 | cons p r ih =>
  simp only [List.map_cons, List.nodup_cons] at hn
  cases j with
  | zero =>
   simp at h; subst h
   rw [List.filter_cons_of_neg (by simp)]
   simp only [List.eraseIdx_zero, List.tail_cons]
   exact List.filter_eq_self.2 fun q hq => by
    have : f q ≠ f p := fun e => hn.1 (List.mem_map.2 ⟨q, hq, e⟩)
    simp [this]
  | succ j =>
   simp at h
   have : f p ≠ f e := fun e1 => hn.1 (List.mem_map.2 ⟨e, List.mem_of_getElem? h, e1.symm⟩)
   rw [List.filter_cons_of_pos (by simp [this]), List.eraseIdx_cons_succ, ih hn.2 h]
section
variable {K X : Type} [DecidableEq K] {P : Program} {w w' : World} {kt : TypeId} {ek : K → Value} {ex : X → Value} {b r : Nat} {l left : List (K × X)}
/-- Block r goes over the map at block b, which holds just l; left are yet to come. -/
def iterIs (w : World) (P : Program) (kt : TypeId) (ek : K → Value) (ex : X → Value) (b r : Nat) (l left : List (K × X)) : Prop :=
 ∃ es clock seen, w.heap[b]? = some (.map es clock) ∧ Stamped es clock ∧ (∀ p ∈ l, ∃ kl, keyOf P kt (ek p.1) = some kl) ∧ es.toList.map (fun e => (e.key, e.val)) = (l.map fun p => (ek p.1, ex p.2)) ∧
  w.heap[r]? = some (.mapIter (some b) clock seen clock) ∧ (leftOf es seen).toList.map (fun e => (e.key, e.val)) = left.map fun p => (ek p.1, ex p.2)
theorem iterIs.is (h : iterIs w P kt ek ex b r l left) : mapIs w P kt ek ex b l := by
 obtain ⟨es, clock, seen, h1, h2, h3, h4, _⟩ := h; exact ⟨es, clock, h1, h2, h3, h4⟩
theorem iterIs.lt (h : iterIs w P kt ek ex b r l left) : r < w.heap.size := by
 obtain ⟨es, clock, seen, h1, h2, h3, h4, h5, _⟩ := h; exact (Array.getElem?_eq_some_iff.1 h5).1
theorem iterIs.ne (h : iterIs w P kt ek ex b r l left) : r ≠ b := by
 obtain ⟨es, clock, seen, h1, h2, h3, h4, h5, _⟩ := h
 intro e; subst e; rw [h1] at h5; cases h5
theorem iterIs.of_block (h : iterIs w P kt ek ex b r l left) (e : w'.heap[b]? = w.heap[b]?) (e' : w'.heap[r]? = w.heap[r]?) : iterIs w' P kt ek ex b r l left := by
 obtain ⟨es, clock, seen, h1, h2, h3, h4, h5, h6⟩ := h; exact ⟨es, clock, seen, e.trans h1, h2, h3, h4, e'.trans h5, h6⟩
theorem mapIs.range (h : mapIs w P kt ek ex b l) {t et : TypeId} (ht : P.underlying t = some (.map kt et)) :
  ∃ w', (Instr.range t (.map (some b))).run P w = .ok (.pointer (some ⟨w.heap.size, 0, none⟩)) w' ∧ iterIs w' P kt ek ex b w.heap.size l l ∧ w.grownBy w' none ∧ w'.heap.size = w.heap.size + 1 := by
 have hlt := h.lt
 obtain ⟨es, clock, hb, hs, hk, hl⟩ := h
 refine ⟨_, run_range_map w t kt et b es clock ht hb, ⟨es, clock, #[], ((MapKept.heap_alloc w _).2 b hlt).trans hb, hs, hk, hl, (MapKept.heap_alloc w _).1, ?_⟩, World.grownBy_alloc w _ none, by simp⟩
 rw [← hl]; simp only [leftOf, Array.toList_filter]; rw [List.filter_eq_self.2 (fun x _ => by simp)]
theorem iterIs.next (h : iterIs w P kt ek ex b r l left) (ty : TypeId) :
  (left = [] ∧ (Instr.next (.pointer (some ⟨r, 0, none⟩)) false ty).run P w = .ok (.tuple #[.bool false]) w) ∨
  ∃ p left' w', left.Perm (p :: left') ∧ (Instr.next (.pointer (some ⟨r, 0, none⟩)) false ty).run P w = .ok (.tuple #[.bool true, ek p.1, ex p.2]) w' ∧ iterIs w' P kt ek ex b r l left' ∧ onlyAt w w' r ∧
   (Instr.entry (.pointer (some ⟨r, 0, none⟩))).run P w' = .ok (.tuple #[ek p.1, ex p.2]) w' := by
 have hne := h.ne
 obtain ⟨es, clock, seen, hb, hs, hk, hl, hr, hleft⟩ := h
 rcases run_next_at (P := P) w ty r b clock clock seen es clock hr hb hs.1 (Nat.le_refl _) with ⟨h0, hrun⟩ | ⟨e, he, w1, hal, hrun⟩
 ·
  refine Or.inl ⟨?_, hrun⟩
  have : (leftOf es seen).toList = [] := by rw [← List.length_eq_zero_iff]; simpa using h0
  rw [this] at hleft; simpa using hleft.symm
 ·
  obtain ⟨hem, hes⟩ := mem_left he
  obtain ⟨j, hj⟩ := List.getElem?_of_mem he
  have e1 : (left.map fun p => (ek p.1, ex p.2))[j]? = some (e.key, e.val) := by rw [← hleft, List.getElem?_map, hj]; rfl
  rw [List.getElem?_map] at e1
  obtain ⟨p, hp, e2⟩ := Option.map_eq_some_iff.1 e1
  have ekp : ek p.1 = e.key := congrArg Prod.fst e2
  have exp : ex p.2 = e.val := congrArg Prod.snd e2
  have hr1 : w1.heap[r]? = some (.mapIter (some b) clock seen clock) := by rcases hal with rfl | rfl <;> exact hr
  have hb1 : w1.heap[b]? = some (.map es clock) := by rcases hal with rfl | rfl <;> exact hb
  have hset := MapKept.heap_set (o' := .mapIter (some b) clock (seen.push e.born) clock) hr1
  have hb' : (setBlock w1 r (.mapIter (some b) clock (seen.push e.born) clock)).heap[b]? = some (.map es clock) := (hset.2 b (fun e1 => hne e1.symm)).trans hb1
  have hjl : j < left.length := (List.getElem?_eq_some_iff.1 hp).1
  have hpe : left[j] = p := (List.getElem?_eq_some_iff.1 hp).2
  refine Or.inr ⟨p, left.eraseIdx j, _, ?_, by rw [ekp, exp]; exact hrun, ⟨es, clock, seen.push e.born, hb', hs, hk, hl, hset.1, ?_⟩, ?_, by rw [ekp, exp]; exact run_entry_at _ r b clock seen es clock e hset.1 hb' hem hs.2.1⟩
  ·
   have := ChangeMaps.set_perm left j hjl left[j]; rw [List.set_getElem_self] at this; rwa [hpe] at this
  ·
   have hf : (leftOf es (seen.push e.born)).toList = (leftOf es seen).toList.eraseIdx j := by
    rw [← filter_eq_erase (·.born) (((by simp [leftOf] : (leftOf es seen).toList.Sublist es.toList).map _).nodup hs.2.1) hj]
    simp only [leftOf, Array.toList_filter, List.filter_filter]
    refine List.filter_congr fun x _ => ?_
    rw [contains_push]; cases seen.contains x.born <;> cases (x.born == e.born) <;> rfl
   rw [hf, ChangeMaps.map_eraseIdx, ChangeMaps.map_eraseIdx, hleft]
  ·
   rcases hal with rfl | rfl <;> exact ⟨by simp [setBlock], rfl, rfl, rfl, by simp [setBlock], fun i _ hi => hset.2 i (fun e1 => hi (by rw [e1]))⟩
end
section
variable {K X : Type} [DecidableEq K] {P : Program} {w : World} {kt : TypeId} {ek : K → Value} {ex : X → Value} {b r : Nat} {l left : List (K × X)} {ops : Array Oper} {rest : List Oper} {o : Oper} {a : Act} {Q : Exit → Act → World → Prop}
theorem wpList_range_is (hg : o.guard = none) (m : Operand) (t : TypeId) (hop : o.op = Op.range t m) (et : TypeId) (ht : P.underlying t = some (.map kt et)) (hm : a.eval m = .map (some b)) (h : mapIs w P kt ek ex b l)
  (h1 : ∀ w', iterIs w' P kt ek ex b w.heap.size l l → w.grownBy w' none → w'.heap.size = w.heap.size + 1 → wpList P ops Q rest (a.put o.dst (.pointer (some ⟨w.heap.size, 0, none⟩))) w') :
  wpList P ops Q (o :: rest) a w := by
 refine wpList_plain hg fun K' hK' => ?_
 obtain ⟨w', hrun, r1, r2, r3⟩ := h.range ht
 unfold Oper.wp
 simp [execOp, hop, hm, hrun, Result.andThen]
 exact hK' _ _ (h1 w' r1 r2 r3)
theorem wpList_next_is (hg : o.guard = none) (it : Operand) (hop : o.op = Op.next it false) (hit : a.eval it = .pointer (some ⟨r, 0, none⟩)) (h : iterIs w P kt ek ex b r l left)
  (h1 : left = [] → wpList P ops Q rest (a.put o.dst (.tuple #[.bool false])) w)
  (h2 : ∀ p left' w', left.Perm (p :: left') → iterIs w' P kt ek ex b r l left' → onlyAt w w' r → (Instr.entry (.pointer (some ⟨r, 0, none⟩))).run P w' = .ok (.tuple #[ek p.1, ex p.2]) w' →
   wpList P ops Q rest (a.put o.dst (.tuple #[.bool true, ek p.1, ex p.2])) w') :
  wpList P ops Q (o :: rest) a w := by
 refine wpList_plain hg fun K' hK' => ?_
 unfold Oper.wp
 rcases h.next o.type with ⟨h0, hrun⟩ | ⟨p, left', w', hp, hrun, hi, ho, he⟩
 ·
  simp [execOp, hop, hit, hrun, Result.andThen]
  exact hK' _ _ (h1 h0)
 ·
  simp [execOp, hop, hit, hrun, Result.andThen]
  exact hK' _ _ (h2 p left' w' hp hi ho he)
end
end Go.Proofs.YtijlebhoapdfnaaGreat
