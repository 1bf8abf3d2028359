/- Values of the language, and frames. -/
import Derived.Test.YtijlebhoapdfnaaGreatBase
import Derived.Test.YtijlebhoapdfnaaGreatMap
import Derived.DeepKeys4
import Derived.StringKeys
import Derived.Below
import Derived.OpenShut
import Derived.Laws.IdiomCopy
namespace Go.Proofs.YtijlebhoapdfnaaGreat
set_option linter.unusedSimpArgs false
open Go.RowKit
open Go.Maps (Keyed)
set_option linter.unusedVariables false
set_option linter.unusedSectionVars false
/-- An api.Value. -/
structure V where
 kind : Int
 n : Int
 s : ByteArray
 hk : (Lit.int .i64 kind).wf = true
 hn : (Lit.int .i64 n).wf = true
 hs : s.size ≤ maxLen
 deriving DecidableEq
def V.cells (v : V) : List Value := [.int .i64 v.kind, .int .i64 v.n, .string v.s]
def V.val (v : V) : Value := .agg #[.int .i64 v.kind, .int .i64 v.n, .string v.s]
def V.zero : V := ⟨0, 0, ⟨#[]⟩, by decide, by decide, by decide⟩
def V.ref (n : Int) (h : (Lit.int .i64 n).wf = true) : V := ⟨4, n, ⟨#[]⟩, by decide, h, by decide⟩
theorem V.val_inj (a b : V) (h : a.val = b.val) : a = b := by
 cases a; cases b; simp only [V.val, Value.agg.injEq, Array.mk.injEq, List.cons.injEq, Value.int.injEq, Value.string.injEq, true_and, and_true] at h
 obtain ⟨h1, h2, h3⟩ := h; subst h1; subst h2; subst h3; rfl
/-- A number of 64 bits. -/
abbrev okI (n : Int) : Prop := (Lit.int .i64 n).wf = true
theorem int_inj (a b : Int) (h : Value.int .i64 a = .int .i64 b) : a = b := by cases h; rfl
def ekI (n : Int) : Value := .int .i64 n
def ekV (v : V) : Value := v.val
theorem ekI_inj (a b : Int) (h : ekI a = ekI b) : a = b := int_inj a b h
theorem ekV_inj (a b : V) (h : ekV a = ekV b) : a = b := V.val_inj a b h
theorem keyI : Keyed Tryz.prog 2 := Maps.int_keyed Tryz.underlying2
theorem keyOfI {n : Int} (h : okI n) : ∃ kl, keyOf Tryz.prog 2 (ekI n) = some kl := ⟨_, Maps.keyOf_int_mk Tryz.underlying2 h⟩
theorem laid : laidOutB Tryz.prog = true := by kernel_rfl
theorem keyV : Keyed Tryz.prog 24 := Keyed.of_law (deep_law_laid laid (m := 3) (by omega) (by decide +kernel) (by kernel_rfl) (by kernel_rfl))
theorem keyOf_three {P : Program} {k : TypeId} {f1 f2 f3 : Field} (hu : P.underlying k = some (.struct #[f1, f2, f3])) (u1 : P.underlying f1.type = some (.int .i64)) (u2 : P.underlying f2.type = some (.int .i64)) (u3 : P.underlying f3.type = some .string)
  (hn : (#[f1, f2, f3].all (·.name != "_")) = true) (ho : f1.offset = 0 ∧ f2.offset = 1 ∧ f3.offset = 2) (h1 : P.keyType k = true) (hc : P.cellsOf k = 3) (c1 : P.cellsOf f1.type = 1) (c2 : P.cellsOf f2.type = 1) (c3 : P.cellsOf f3.type = 1) (hs : 0 < P.types.size) (v : V) :
  ∃ kl, keyOf P k v.val = some kl := by
 obtain ⟨d, hd⟩ : ∃ d, P.types.size = d + 1 := ⟨P.types.size - 1, by omega⟩
 obtain ⟨o1, o2, o3⟩ := ho
 have g1 : P.keyLits (d + 1) f1.type [.int .i64 v.kind] = some [.int .i64 v.kind] := by simp [Program.keyLits, u1, v.hk]
 have g2 : P.keyLits (d + 1) f2.type [.int .i64 v.n] = some [.int .i64 v.n] := by simp [Program.keyLits, u2, v.hn]
 have g3 : P.keyLits (d + 1) f3.type [.string v.s] = some [.string v.s.data.toList] := by simp [Program.keyLits, u3, v.hs]
 have g : P.keyLits (d + 2) k [.int .i64 v.kind, .int .i64 v.n, .string v.s] = some [.int .i64 v.kind, .int .i64 v.n, .string v.s.data.toList] := by
  unfold Program.keyLits
  simp only [hu, hn, hc, List.length_cons, List.length_nil, and_self, if_true, List.mapM_cons, List.mapM_nil, o1, o2, o3, c1, c2, c3, List.drop_zero, List.drop_succ_cons, List.take_succ_cons, List.take_zero, g1, g2, g3]
  rfl
 have hf : v.val.formed P k = true := by simp [V.val, Value.formed, hu, hc]
 refine ⟨.string (keyBytes [.int .i64 v.kind, .int .i64 v.n, .string v.s.data.toList]), ?_⟩
 unfold keyOf
 simp only [hu, h1, hf, hd, Bool.and_true, if_true]
 rw [show v.val.cells.toList = [.int .i64 v.kind, .int .i64 v.n, .string v.s] from rfl, g]; rfl
theorem keyOfV (v : V) : ∃ kl, keyOf Tryz.prog 24 (ekV v) = some kl :=
 keyOf_three Tryz.underlying24 Tryz.underlying3 Tryz.underlying2 Tryz.underlying9 (by decide +kernel) ⟨rfl, rfl, rfl⟩ (by kernel_rfl) (by kernel_rfl) (by kernel_rfl) (by kernel_rfl) (by kernel_rfl) (by decide +kernel) v
/-- What lay in w lies as it lay, but for the blocks F. -/
structure Outside (F : List Nat) (w w' : World) : Prop where
 os : w'.os = w.os
 tape : w'.tape = w.tape
 output : w'.output = w.output
 size : w.heap.size ≤ w'.heap.size
 block : ∀ k, k < w.heap.size → k ∉ F → w'.heap[k]? = w.heap[k]?
/-- The blocks of F' are of F, or new. -/
def Grow (F F' : List Nat) (w : World) : Prop := ∀ b ∈ F', b ∈ F ∨ w.heap.size ≤ b
theorem Grow.refl (F : List Nat) (w : World) : Grow F F w := fun b hb => .inl hb
theorem Grow.trans {F F1 F2 : List Nat} {w w1 : World} (h : Grow F F1 w) (k : Grow F1 F2 w1) (hs : w.heap.size ≤ w1.heap.size) : Grow F F2 w := fun b hb => by
 rcases k b hb with hb | hb
 ·
  exact h b hb
 ·
  exact .inr (by omega)
theorem Outside.refl (F : List Nat) (w : World) : Outside F w w := ⟨rfl, rfl, rfl, Nat.le_refl _, fun _ _ _ => rfl⟩
theorem Outside.trans {F F' : List Nat} {w w1 w2 : World} (h : Outside F w w1) (k : Outside F' w1 w2) (hF : Grow F F' w) : Outside F w w2 :=
 ⟨k.os.trans h.os, k.tape.trans h.tape, k.output.trans h.output, Nat.le_trans h.size k.size, fun b hb hn => by
  rw [k.block b (Nat.lt_of_lt_of_le hb h.size) (fun hm => by rcases hF b hm with h' | h'; exact hn h'; omega)]; exact h.block b hb hn⟩
theorem Outside.mono {F F' : List Nat} {w w1 : World} (h : Outside F w w1) (hF : ∀ b ∈ F, b ∈ F') : Outside F' w w1 := ⟨h.os, h.tape, h.output, h.size, fun b hb hn => h.block b hb fun hm => hn (hF b hm)⟩
theorem Outside.of_below {w w' : World} (h : Below w.heap.size w w') (F : List Nat) : Outside F w w' := ⟨h.os, h.tape, h.output, h.size, fun b hb _ => h.block b hb⟩
theorem Outside.below {w w' : World} (h : Outside [] w w') : Below w.heap.size w w' := ⟨h.os, h.tape, h.output, h.size, fun b hb => h.block b hb (by simp)⟩
theorem Outside.of_grown {w w' : World} {row : Option Nat} (h : w.grownBy w' row) : Outside row.toList w w' := ⟨h.os, h.tape, h.output, h.size, fun b hb hn => h.block b hb fun e => hn (by rw [← e]; simp)⟩
theorem Outside.below_of {F : List Nat} {B : Nat} {W w w' : World} (h : Below B W w) (k : Outside F w w') (hF : ∀ b ∈ F, B ≤ b) (hB : B ≤ w.heap.size) : Below B W w' :=
 ⟨k.os.trans h.os, k.tape.trans h.tape, k.output.trans h.output, Nat.le_trans h.size k.size, fun b hb => by
  rw [k.block b (by omega) fun hm => by have := hF b hm; omega]; exact h.block b hb⟩
theorem Outside.drew {F : List Nat} {w w' : World} (h : Outside F w w') : Outside F w w'.drew := ⟨h.os, h.tape, h.output, h.size, h.block⟩
theorem Outside.drewN {F : List Nat} {w w' : World} (h : Outside F w w') (n : Nat) : Outside F w (w'.drewN n) := by
 induction n with
 | zero => exact h
 | succ n ih => exact ih.drew
theorem Outside.alloc {F : List Nat} {w w' : World} (h : Outside F w w') (o : Obj) : Outside F w (w'.alloc o) :=
 ⟨h.os, h.tape, h.output, Nat.le_trans h.size (by simp), fun b hb hn => by rw [Below.heap_alloc _ _ _ (Nat.lt_of_lt_of_le hb h.size)]; exact h.block b hb hn⟩
theorem Outside.setCell {F : List Nat} {w w' : World} (h : Outside F w w') {p : Addr} (hp : p.block ∈ F ∨ w.heap.size ≤ p.block) (u : Value) : Outside F w (w'.setCell p u) :=
 ⟨h.os, h.tape, h.output, Nat.le_trans h.size (by simp), fun b hb hn => by
  rw [Below.heap_setCell _ _ _ _ (fun e => by subst e; rcases hp with hp | hp; exact hn hp; omega)]; exact h.block b hb hn⟩
theorem Outside.grown {F : List Nat} {w w' w'' : World} {row : Option Nat} (h : Outside F w w') (k : w'.grownBy w'' row) (hr : ∀ b, row = some b → b ∈ F ∨ w.heap.size ≤ b) : Outside F w w'' :=
 h.trans (Outside.of_grown k) (fun b hb => hr b (by simpa using hb))
theorem ownsRow_block {w w' : World} {e : TypeId} {size : Nat} {v : Value} {n : Nat} {xs : List Value} (h : w.ownsRow 0 e size v n xs) (hb : ∀ g, v.ownBlock = some g → w'.heap[g]? = w.heap[g]?) : w'.ownsRow 0 e size v n xs := by
 refine ⟨h.1, ?_⟩
 rcases h.2 with hn | ⟨g, cap, cur, rfl, hb0, hgg, rest⟩
 ·
  exact .inl hn
 ·
  exact .inr ⟨g, cap, cur, rfl, hb0, (hb g rfl).trans hgg, rest⟩
theorem cellAt {w : World} {b : Nat} {cs : Array Value} {t : TypeId} (h : w.heap[b]? = some (.cells cs t)) (i : Nat) {v : Value} (hv : cs[i]? = some v) : w.cell? ⟨b, i, none⟩ = some v := by
 rw [cell_of_row w b i cs t (0, 0) h]; exact hv
theorem frozenAt {w : World} {b : Nat} {cs : Array Value} {t : TypeId} (h : w.heap[b]? = some (.cells cs t)) (i : Nat) : w.frozen? ⟨b, i, none⟩ = false := by
 simp [World.frozen?, h]
theorem blockLt {w : World} {b : Nat} {o : Obj} (h : w.heap[b]? = some o) : b < w.heap.size := (Array.getElem?_eq_some_iff.1 h).1
theorem blockAlloc {w : World} {b : Nat} {o o' : Obj} (h : w.heap[b]? = some o) : (w.alloc o').heap[b]? = some o := by rw [Below.heap_alloc _ _ _ (blockLt h)]; exact h
section
variable {K X : Type} [DecidableEq K] {P : Program} {w w' : World} {kt : TypeId} {ek : K → Value} {ex : X → Value} {b : Nat} {l : List (K × X)}
theorem mapIs.alloc (h : mapIs w P kt ek ex b l) (o : Obj) : mapIs (w.alloc o) P kt ek ex b l := h.of_block (Below.heap_alloc _ _ _ h.lt)
end
section
variable {K X : Type} [DecidableEq K] {P : Program} {w w' : World} {kt : TypeId} {ek : K → Value} {ex : X → Value} {b : Nat} {l : List (K × X)}
theorem mapIs.drewN (h : mapIs w P kt ek ex b l) (n : Nat) : mapIs (w.drewN n) P kt ek ex b l := h.of_block (by
 induction n with
 | zero => rfl
 | succ n ih => exact ih)
theorem heapAllocNew (w : World) (o : Obj) : (w.alloc o).heap[w.heap.size]? = some o := (MapKept.heap_alloc w o).1
end
theorem flatMap_get {α β : Type} (f : α → List β) (m : Nat) (hm : ∀ a, (f a).length = m) : ∀ (l : List α) (i j : Nat), j < m → (l.flatMap f)[i * m + j]? = (l[i]?).bind fun a => (f a)[j]?
 | [], i, j, h => by simp
 | a :: l, 0, j, h => by simp [List.getElem?_append_left (show j < (f a).length by rw [hm]; exact h)]
 | a :: l, i + 1, j, h => by
  have e : (i + 1) * m + j = (f a).length + (i * m + j) := by rw [hm, Nat.succ_mul]; omega
  rw [List.flatMap_cons, e, List.getElem?_append_right (by omega), Nat.add_sub_cancel_left, flatMap_get f m hm l i j h]; simp
theorem flatMap_length {α β : Type} (f : α → List β) (m : Nat) (hm : ∀ a, (f a).length = m) (l : List α) : (l.flatMap f).length = l.length * m := by
 induction l with
 | nil => simp
 | cons a l ih => rw [List.flatMap_cons, List.length_append, ih, hm, List.length_cons, Nat.succ_mul]; omega
section
variable {α : Type} {w w' : World} {e : TypeId} {m : Nat} {f : α → List Value} {rv : Value} {l : List α}
/-- A slice of its own whose elements are just l (each m cells). -/
def slIs (w : World) (e : TypeId) (m : Nat) (f : α → List Value) (rv : Value) (l : List α) : Prop := w.ownsRow 0 e m rv l.length (l.flatMap f)
theorem slIs.shape (h : slIs w e m f rv l) : (rv = .slice none 0 0 ∧ l = []) ∨ ∃ g cap, rv = .slice (some ⟨g, 0, none⟩) l.length cap ∧ l.length ≤ cap ∧ cap ≤ maxLen ∧ g < w.heap.size := by
 rcases h.2 with ⟨h1, h2⟩ | ⟨g, cap, cur, rfl, h0, hg, h1, h2, h3, h4⟩
 ·
  exact .inl ⟨h1, List.length_eq_zero_iff.1 h2⟩
 ·
  exact .inr ⟨g, cap, rfl, h1, h2, blockLt hg⟩
theorem slIs.cell (hm : ∀ a, (f a).length = m) (h : slIs w e m f rv l) {g : Nat} (hg : rv.ownBlock = some g) {i : Nat} {a : α} (hi : l[i]? = some a) {j : Nat} {u : Value} (hj : (f a)[j]? = some u) : w.cell? ⟨g, i * m + j, none⟩ = some u := by
 have hjm : j < m := by rw [← hm a]; exact (List.getElem?_eq_some_iff.1 hj).1
 have := h.cells hg (i * m + j) u (by rw [flatMap_get f m hm l i j hjm, hi]; exact hj)
 have hadd : (⟨g, 0, none⟩ : Addr).add (i * m + j) = ⟨g, i * m + j, none⟩ := by unfold Addr.add; split <;> simp_all
 rw [hadd] at this; exact this
theorem slIs.frozen (h : slIs w e m f rv l) {g : Nat} (hg : rv.ownBlock = some g) (i : Nat) : w.frozen? ⟨g, i, none⟩ = false := by
 rcases h.2 with ⟨rfl, h2⟩ | ⟨g', cap, cur, rfl, h0, hb, h1, h2, h3, h4⟩
 ·
  cases hg
 ·
  cases hg; exact frozenAt hb i
theorem slIs.of_block (h : slIs w e m f rv l) (hb : ∀ g, rv.ownBlock = some g → w'.heap[g]? = w.heap[g]?) : slIs w' e m f rv l := ownsRow_block h hb
theorem slIs.lt (h : slIs w e m f rv l) : ∀ g, rv.ownBlock = some g → g < w.heap.size := fun g hg => (World.ownsRow.lt h g hg).2
theorem slIs.alloc (h : slIs w e m f rv l) (o : Obj) : slIs (w.alloc o) e m f rv l := World.ownsRow.alloc h o
theorem slIs.drewN (h : slIs w e m f rv l) (n : Nat) : slIs (w.drewN n) e m f rv l := h.of_block fun g _ => by
 induction n with
 | zero => rfl
 | succ n ih => exact ih
end
theorem Below.drewN {B : Nat} {a w : World} (h : Below B a w) (n : Nat) : Below B a (w.drewN n) := by
 induction n with
 | zero => exact h
 | succ n ih => exact ih.drew
theorem size_drewN (w : World) (n : Nat) : (w.drewN n).heap.size = w.heap.size := by
 induction n with
 | zero => rfl
 | succ n ih => exact ih
theorem size_setCell (w : World) (a : Addr) (u : Value) : (w.setCell a u).heap.size = w.heap.size := by simp
theorem Outside.cell {F : List Nat} {w w' : World} (h : Outside F w w') {p : Addr} {v : Value} (hp : w.cell? p = some v) (hn : p.block ∉ F) : w'.cell? p = some v :=
 (World.cell?_of_block (w := w) (h.block p.block (World.block_lt_of_cell? w p hp) hn)).trans hp
theorem cell_not_map {w : World} {p : Addr} {v : Value} (h : w.cell? p = some v) {es : Array MapEntry} {clock : Nat} (hb : w.heap[p.block]? = some (.map es clock)) : False := by
 simp [World.cell?, hb] at h
theorem mapIs.ne_cell {K X : Type} [DecidableEq K] {P : Program} {w : World} {kt : TypeId} {ek : K → Value} {ex : X → Value} {b : Nat} {l : List (K × X)} (h : mapIs w P kt ek ex b l) {p : Addr} {v : Value} (hp : w.cell? p = some v) : p.block ≠ b := by
 obtain ⟨es, clock, hb, _⟩ := h
 intro e; subst e; exact cell_not_map hp hb
/-- The slice sv shows just the values l. -/
def SeesV (w : World) (sv : Value) (l : List V) : Prop :=
 ∃ a cap, sv = .slice a l.length cap ∧ l.length ≤ cap ∧ cap ≤ maxLen ∧ (l = [] ∨ ∃ g o, a = some ⟨g, o, none⟩ ∧ ∀ i v, l[i]? = some v → w.cell? ⟨g, o + i * 3, none⟩ = some (.int .i64 v.kind) ∧ w.cell? ⟨g, o + i * 3 + 1, none⟩ = some (.int .i64 v.n) ∧ w.cell? ⟨g, o + i * 3 + 2, none⟩ = some (.string v.s))
theorem SeesV.keep {w w' : World} {sv : Value} {l : List V} (h : SeesV w sv l) (hc : ∀ p v, w.cell? p = some v → w'.cell? p = some v) : SeesV w' sv l := by
 obtain ⟨a, cap, h1, h2, h3, h4⟩ := h
 refine ⟨a, cap, h1, h2, h3, ?_⟩
 rcases h4 with h4 | ⟨g, o, h5, h6⟩
 ·
  exact .inl h4
 ·
  exact .inr ⟨g, o, h5, fun i v hv => ⟨hc _ _ (h6 i v hv).1, hc _ _ (h6 i v hv).2.1, hc _ _ (h6 i v hv).2.2⟩⟩
theorem heap_setCell_same {w : World} {g : Nat} {cur : Array Value} {e : TypeId} {fr : Nat × Nat} (h : w.heap[g]? = some (.cells cur e fr)) (o : Nat) (u : Value) : (w.setCell ⟨g, o, none⟩ u).heap[g]? = some (.cells (cur.setIfInBounds o u) e fr) := by
 show (w.heap.modify g _)[g]? = _
 rw [Array.getElem?_modify, if_pos rfl, h]; rfl
theorem heap_setCells_same {g : Nat} {e : TypeId} {fr : Nat × Nat} : ∀ (vs : List Value) (o : Nat) {w : World} {cur : Array Value}, w.heap[g]? = some (.cells cur e fr) → ∃ cur', (w.setCells g o vs).heap[g]? = some (.cells cur' e fr) ∧ cur'.size = cur.size
 | [], o, w, cur, h => ⟨cur, h, rfl⟩
 | v :: r, o, w, cur, h => by
  obtain ⟨c', h1, h2⟩ := heap_setCells_same r (o + 1) (heap_setCell_same h o v)
  exact ⟨c', h1, by rw [h2]; simp⟩
theorem slIs.putPart {α : Type} {w : World} {e : TypeId} {m : Nat} {f : α → List Value} {l : List α} {g c i o : Nat} {a a' : α} {vs : List Value} (hm : ∀ a, (f a).length = m) (h : slIs w e m f (.slice (some ⟨g, 0, none⟩) l.length c) l) (hi : l[i]? = some a)
  (hfa : f a' = (f a).take o ++ vs ++ (f a).drop (o + vs.length)) (ho : o + vs.length ≤ m) : slIs (w.setCells g (i * m + o) vs) e m f (.slice (some ⟨g, 0, none⟩) l.length c) (l.set i a') := by
 have hil : i < l.length := (List.getElem?_eq_some_iff.1 hi).1
 refine ⟨by rw [flatMap_length f m hm], ?_⟩
 rcases h.2 with ⟨h1, _⟩ | ⟨g', cap, cur, h1, h0, hg, h2, h3, h4, h5⟩
 ·
  cases h1
 cases h1
 obtain ⟨cur', hg', hs'⟩ := heap_setCells_same vs (i * m + o) hg
 refine .inr ⟨g, c, cur', by rw [List.length_set], h0, hg', by rw [List.length_set]; exact h2, h3, by rw [hs', h4], ?_⟩
 rw [List.length_set]
 apply List.ext_getElem?
 intro x
 rw [List.getElem?_take]
 by_cases hx : x < l.length * m
 ·
  rw [if_pos hx]
  have hm0 : 0 < m := by rcases Nat.eq_zero_or_pos m with h | h; subst h; simp at hx; exact h
  have hdiv : x / m < l.length := by rw [Nat.div_lt_iff_lt_mul hm0]; exact hx
  have hmod : x % m < m := Nat.mod_lt _ hm0
  have hxe : x = x / m * m + x % m := by rw [Nat.mul_comm]; exact (Nat.div_add_mod x m).symm
  have hw : (w.setCells g (i * m + o) vs).cell? ⟨g, x, none⟩ = cur'[x]? := by rw [cell_of_row _ g x cur' e (0, 0) hg']
  have hold : ∀ y, y < l.length * m → w.cell? ⟨g, y, none⟩ = (l.flatMap f)[y]? := fun y hy => by
   rw [cell_of_row w g y cur e (0, 0) hg, ← h5, List.getElem?_take, if_pos hy]; simp
  have hlt2 : i * m + m ≤ l.length * m := by
   have := Nat.mul_le_mul_right m (show i + 1 ≤ l.length from hil)
   rw [Nat.succ_mul] at this; exact this
  rw [Array.getElem?_toList, ← hw]
  conv => rhs; rw [hxe]
  rw [flatMap_get f m hm _ _ _ hmod]
  by_cases e1 : x / m = i
  ·
   rw [e1, List.getElem?_set_self hil]
   simp only [Option.bind_some]
   rw [hfa]
   have hlen : (f a).length = m := hm a
   by_cases e2 : x % m < o
   ·
    rw [World.cell?_setCells_out g vs _ _ _ (fun _ _ => Or.inl (by show x < _; rw [hxe, e1]; omega)), hold x hx]
    conv => lhs; rw [hxe]
    rw [flatMap_get f m hm _ _ _ hmod, e1, hi, List.append_assoc, List.getElem?_append_left (by rw [List.length_take]; omega), List.getElem?_take, if_pos e2]; rfl
   ·
    by_cases e3 : x % m < o + vs.length
    ·
     have hj : x % m - o < vs.length := by omega
     have := World.cell?_setCells_in g vs (i * m + o) w (fun j hj => by rw [hold _ (by omega)]; rw [List.getElem?_eq_getElem (by rw [flatMap_length f m hm]; omega)]; rfl) (x % m - o) hj
     have ex : i * m + o + (x % m - o) = x := by rw [e1] at hxe; omega
     rw [ex] at this
     rw [this, List.append_assoc, List.getElem?_append_right (by rw [List.length_take]; omega), List.length_take, List.getElem?_append_left (by omega)]
     rw [show min o (f a).length = o by omega]
     exact (List.getElem?_eq_getElem hj).symm
    ·
     rw [World.cell?_setCells_out g vs _ _ _ (fun _ _ => Or.inr (by show _ ≤ x; rw [e1] at hxe; omega)), hold x hx]
     conv => lhs; rw [hxe]
     rw [flatMap_get f m hm _ _ _ hmod, e1, hi, List.getElem?_append_right (by rw [List.length_append, List.length_take]; omega), List.length_append, List.length_take, List.getElem?_drop]
     simp only [Option.bind_some]
     congr 1; omega
  ·
   rw [List.getElem?_set_ne (fun h => e1 h.symm)]
   rw [World.cell?_setCells_out g vs _ _ _ (fun _ _ => by
    show x < _ ∨ _ ≤ x
    rcases Nat.lt_or_gt_of_ne e1 with h | h
    ·
     left
     have := Nat.mul_le_mul_right m (show x / m + 1 ≤ i from h)
     rw [Nat.succ_mul] at this; omega
    ·
     right
     have := Nat.mul_le_mul_right m (show i + 1 ≤ x / m from h)
     rw [Nat.succ_mul] at this; omega), hold x hx]
   conv => lhs; rw [hxe]
   rw [flatMap_get f m hm _ _ _ hmod]
 ·
  rw [if_neg hx, List.getElem?_eq_none (by rw [flatMap_length f m hm, List.length_set]; omega)]
theorem slIs.putAt {α : Type} {w : World} {e : TypeId} {m : Nat} {f : α → List Value} {l : List α} {g c i : Nat} {a' : α} (hm : ∀ a, (f a).length = m) (h : slIs w e m f (.slice (some ⟨g, 0, none⟩) l.length c) l) (hi : i < l.length) :
  slIs (w.setCells g (i * m) (f a')) e m f (.slice (some ⟨g, 0, none⟩) l.length c) (l.set i a') := by
 have := h.putPart hm (List.getElem?_eq_getElem hi) (o := 0) (a' := a') (vs := f a') (by simp [hm]) (by simp [hm])
 simpa using this
theorem run_clear_row {P : Program} (w : World) (t e ty : TypeId) (z : Value) (ht : P.underlying t = some (.slice e)) (hv : ∀ w, (zeroValue e).run P w = .ok z w) (h1 : ∀ v ∈ z.cells.toList, v.oneCell' = true) (b o n c : Nat) (hn : 0 < n)
  (hc : ∀ j, j < n * z.cells.size → (w.cell? ⟨b, o + j, none⟩).isSome = true) (hf : ∀ j, j < n * z.cells.size → w.frozen? ⟨b, o + j, none⟩ = false) :
  ∃ vs, (Builtin.clear_ #[t] ty #[.slice (some ⟨b, o, none⟩) n c]).run P w = .ok (.tuple #[]) (w.setCells b o vs) ∧ vs.length = n * z.cells.size := by
 have hl : (Builtin.zeroCells z.cells n).toList.length = n * z.cells.size := by simp [Builtin.zeroCells]
 refine ⟨(Builtin.zeroCells z.cells n).toList, ?_, hl⟩
 have hst := run_storeCells_cells (P := P) b o (Builtin.zeroCells z.cells n).toList 0 w (by rw [hl]; simpa using hc) (by rw [hl]; simpa using hf) (fun v hv' => by
  simp [Builtin.zeroCells] at hv'
  obtain ⟨i, hi, rfl⟩ := hv'
  have hpos : 0 < z.cells.size := by
   rcases Nat.eq_zero_or_pos z.cells.size with h | h
   ·
    rw [h] at hi; omega
   ·
    exact h
  have hlt := Nat.mod_lt i hpos
  rw [getElem!_pos z.cells _ hlt]
  exact h1 _ (by simp))
 simp only [Nat.add_zero] at hst
 obtain ⟨m, rfl⟩ : ∃ m, n = m + 1 := ⟨n - 1, by omega⟩
 simp [Builtin.clear_, run_underlying ht, hv, hst]
theorem slIs.take {α : Type} {w : World} {e : TypeId} {m : Nat} {f : α → List Value} {l : List α} {g c : Nat} (hm : ∀ a, (f a).length = m) (h : slIs w e m f (.slice (some ⟨g, 0, none⟩) l.length c) l) {x : Nat} (hx : x ≤ l.length) : slIs w e m f (.slice (some ⟨g, 0, none⟩) x c) (l.take x) := by
 rcases h.2 with ⟨h1, _⟩ | ⟨g', cap, cur, h1, h0, hg, h2, h3, h4, h5⟩
 ·
  cases h1
 cases h1
 have hlx : (l.take x).length = x := by rw [List.length_take]; omega
 refine ⟨by rw [flatMap_length f m hm], .inr ⟨g, c, cur, by rw [hlx], h0, hg, by omega, h3, h4, ?_⟩⟩
 rw [hlx]
 have h6 : (l.take x).flatMap f = (l.flatMap f).take (x * m) := by
  have h7 : l.flatMap f = (l.take x).flatMap f ++ (l.drop x).flatMap f := by rw [← List.flatMap_append, List.take_append_drop]
  have h8 : ((l.take x).flatMap f).length = x * m := by rw [flatMap_length f m hm, hlx]
  rw [h7, List.take_left' h8]
 rw [h6, ← h5, List.take_take, Nat.min_eq_left (Nat.mul_le_mul_right m hx)]
theorem slIs.setBeyond {α : Type} {w : World} {e : TypeId} {m : Nat} {f : α → List Value} {l : List α} {g c : Nat} (hm : ∀ a, (f a).length = m) (h : slIs w e m f (.slice (some ⟨g, 0, none⟩) l.length c) l) {o : Nat} (ho : l.length * m ≤ o) (vs : List Value) : slIs (w.setCells g o vs) e m f (.slice (some ⟨g, 0, none⟩) l.length c) l := by
 refine ⟨h.1, ?_⟩
 rcases h.2 with ⟨h1, _⟩ | ⟨g', cap, cur, h1, h0, hg, h2, h3, h4, h5⟩
 ·
  cases h1
 cases h1
 obtain ⟨cur', hg', hs'⟩ := heap_setCells_same vs o hg
 refine .inr ⟨g, c, cur', rfl, h0, hg', h2, h3, by rw [hs', h4], ?_⟩
 apply List.ext_getElem?
 intro x
 rw [List.getElem?_take]
 by_cases hx : x < l.length * m
 ·
  have h7 := World.cell?_setCells_out g vs o w ⟨g, x, none⟩ (fun _ _ => Or.inl (by show x < o; omega))
  rw [cell_of_row _ g x cur' e (0, 0) hg', cell_of_row w g x cur e (0, 0) hg] at h7
  rw [if_pos hx, ← h5, List.getElem?_take, if_pos hx, Array.getElem?_toList, Array.getElem?_toList, h7]
 ·
  rw [if_neg hx, ← h5, List.getElem?_take, if_neg hx]
theorem Outside.setCells {F : List Nat} {w : World} {b : Nat} (hb : b ∈ F ∨ w.heap.size ≤ b) : ∀ (vs : List Value) (o : Nat) {w' : World}, Outside F w w' → Outside F w (w'.setCells b o vs)
 | [], _, _, h => h
 | v :: r, o, w', h => Outside.setCells hb r (o + 1) (h.setCell (p := ⟨b, o, none⟩) hb v)
end Go.Proofs.YtijlebhoapdfnaaGreat
