import Derived.Test.YtjinabglachglaaHeld
import Derived.Test.YtjinabglachglaaRef2
import Derived.Test.YtjinabglachglaaShown
import Derived.Test.YtjinabglachglaaBytes
/- Graphs: what they are, how many objects, of which kinds. -/
namespace Go.Proofs.Ytjinabglachglaa
set_option linter.unusedSimpArgs false
open Go.RowKit
set_option linter.unusedVariables false
/-- A slice that shows these edges. -/
def SeesE (w : World) (sv : Value) (l : List (Nat × Nat × Nat)) : Prop :=
  ∃ a c, sv = .slice a l.length c ∧ l.length ≤ maxLen ∧ (∀ e ∈ l, e.1 < 256 ∧ e.2.1 < 256 ∧ e.2.2 < 256) ∧ (l = [] ∨ ∃ g o, a = some ⟨g, o, none⟩ ∧ ∀ (i : Nat) (e : Nat × Nat × Nat), l[i]? = some e →
    w.cell? ⟨g, o + i * 3, none⟩ = some (.int .u8 (e.1 : Int)) ∧ w.cell? ⟨g, o + i * 3 + 1, none⟩ = some (.int .u8 (e.2.1 : Int)) ∧ w.cell? ⟨g, o + i * 3 + 2, none⟩ = some (.int .u8 (e.2.2 : Int)))
structure GraphM where
  kinds : List Nat
  edges : List (Nat × Nat × Nat)
  held : List Nat
structure SeesG (w : World) (kv ev hv : Value) (g : GraphM) : Prop where
  kinds : SeesB w kv g.kinds
  edges : SeesE w ev g.edges
  held : SeesB w hv g.held
theorem SeesB.below {w w' : World} {sv : Value} {l : List Nat} (h : SeesB w sv l) (hb : Below w.heap.size w w') : SeesB w' sv l := by
  obtain ⟨a, c, e, h1, h2, h3⟩ := h
  refine ⟨a, c, e, h1, h2, ?_⟩
  rcases h3 with h | ⟨g, o, h4, h5⟩
  · exact .inl h
  · exact .inr ⟨g, o, h4, fun i b hi => cellBelow (h5 i b hi) hb⟩
theorem SeesE.below {w w' : World} {sv : Value} {l : List (Nat × Nat × Nat)} (h : SeesE w sv l) (hb : Below w.heap.size w w') : SeesE w' sv l := by
  obtain ⟨a, c, e, h1, h2, h3⟩ := h
  refine ⟨a, c, e, h1, h2, ?_⟩
  rcases h3 with h | ⟨g, o, h4, h5⟩
  · exact .inl h
  · exact .inr ⟨g, o, h4, fun i b hi => ⟨cellBelow (h5 i b hi).1 hb, cellBelow (h5 i b hi).2.1 hb, cellBelow (h5 i b hi).2.2 hb⟩⟩
theorem SeesG.below {w w' : World} {kv ev hv : Value} {g : GraphM} (h : SeesG w kv ev hv g) (hb : Below w.heap.size w w') : SeesG w' kv ev hv g :=
  ⟨h.kinds.below hb, h.edges.below hb, h.held.below hb⟩
def manyM (l : List Nat) : Nat := max 1 (min l.length 12)
theorem manyM_le (l : List Nat) : 1 ≤ manyM l ∧ manyM l ≤ 12 := by unfold manyM; omega
def kindM (l : List Nat) (i : Nat) : Int := match l[i]? with | some b => 1 + ((b % 12 : Nat) : Int) | none => 6
theorem kindM_ok (l : List Nat) (i : Nat) : 1 ≤ kindM l i ∧ kindM l i ≤ 12 := by
  unfold kindM; split <;> omega
set_option maxRecDepth 100000 in
theorem many_ok (W : World) (kv ev hv : Value) (l : List Nat) (h : SeesB W kv l) :
    Calls Try.prog 31 #[.agg #[kv, ev, hv]] W fun e W' => e = .returned (.int .i64 (manyM l)) ∧ Below W.heap.size W W' := by
  obtain ⟨a, c, rfl, h1, h2, h3⟩ := h
  have hl : (l.length : Int) ≤ 9223372036854775807 := by unfold maxLen at h1; omega
  have HB := Lib.hid (Below.alloc (Below.refl W.heap.size W) (Nat.le_refl _) (.cells #[.slice a l.length c, ev, hv] 28))
  have HL := Lib.hid h1
  clear h1 h2 h3
  go_enter Try.func31, Try.ntmps31
  go_wp2
  go_ret
  refine ⟨?_, HB.out⟩
  have : ((manyM l : Nat) : Int) = max 1 (min (l.length : Int) 12) := by unfold manyM; omega
  rw [this]; rfl
set_option maxRecDepth 100000 in
theorem kind_ok (W : World) (kv ev hv : Value) (l : List Nat) (h : SeesB W kv l) (i : Nat) (hi : i ≤ 100) :
    Calls Try.prog 32 #[.agg #[kv, ev, hv], .int .i64 i] W fun e W' => e = .returned (.int .i64 (kindM l i)) ∧ Below W.heap.size W W' := by
  obtain ⟨a, c, rfl, h1, h2, h3⟩ := h
  have hl : (l.length : Int) ≤ 9223372036854775807 := by unfold maxLen at h1; omega
  have HB := Lib.hid (Below.alloc (Below.refl W.heap.size W) (Nat.le_refl _) (.cells #[.slice a l.length c, ev, hv] 28))
  by_cases hlt : i < l.length
  · obtain ⟨x, hx⟩ : ∃ x, l[i]? = some x := ⟨l[i], by simp [hlt]⟩
    obtain ⟨g, o, rfl, h4⟩ : ∃ g o, a = some ⟨g, o, none⟩ ∧ ∀ (i b : Nat), l[i]? = some b → W.cell? ⟨g, o + i, none⟩ = some (.int .u8 (b : Int)) := by
      rcases h3 with h | h
      · subst h; simp at hlt
      · exact h
    have c0 := h4 i x hx
    have c1 := cellBelow c0 HB.out
    have hil : (i : Int) < l.length := by omega
    have hx256 := h2 x (List.mem_of_getElem? hx)
    have HX := Lib.hid (And.intro hx hx256)
    have hk : kindM l i = 1 + ((x % 12 : Nat) : Int) := by unfold kindM; rw [hx]
    rw [hk]
    clear h1 h2 h3 h4 hx hlt hk
    go_enter Try.func32, Try.ntmps32
    go_wp2
    exact bodyPost_ret (v := .int .i64 (1 + ((x : Int) % 12))) (by simp [results, Try.results32, go_sem]) rfl ⟨by simp, HB.out⟩
  · have hk : kindM l i = 6 := by unfold kindM; rw [List.getElem?_eq_none (by omega)]
    rw [hk]
    have hil : ¬ (i : Int) < l.length := by omega
    clear h1 h2 h3 hlt hk
    go_enter Try.func32, Try.ntmps32
    go_wp2
    exact bodyPost_ret (v := .int .i64 6) (by simp [results, Try.results32, go_sem]) rfl ⟨rfl, HB.out⟩
end Go.Proofs.Ytjinabglachglaa
/- Graphs, plainly. -/
namespace Go.Proofs.Ytjinabglachglaa
set_option linter.unusedSimpArgs false
open Go.RowKit
set_option linter.unusedVariables false
/-- A heap in good order, with a bound. -/
structure HeapM.Fit (H : HeapM) (N : Nat) : Prop where
  G : H.Good N
  K : H.Kinds
  P : ∀ p ∈ H.objs, PairsOk p.2.pairs
theorem HeapM.Fit.more {H : HeapM} {N M : Nat} (h : H.Fit N) (hM : N ≤ M) : H.Fit M := ⟨h.G.more hM, h.K, h.P⟩
theorem fit_empty : (⟨[], 0⟩ : HeapM).Fit 0 := ⟨good_empty, by simp [HeapM.Kinds], by simp⟩
theorem HeapM.Fit.set {H : HeapM} {N M : Nat} (h : H.Fit N) {v : V} {o : ObjM} (g : H.of v = some o) (o' : ObjM) (hk : o'.kind = o.kind) (hp : PairsOk o'.pairs) (G : (H.set v.n o').Good M) : (H.set v.n o').Fit M :=
  ⟨G, h.K.set g o' hk, fun p hp' => by
    obtain ⟨q, hq, e⟩ := List.mem_map.1 hp'
    by_cases hn : q.1 = v.n
    · rw [if_pos hn] at e; subst e; exact hp
    · rw [if_neg hn] at e; subst e; exact h.P q hq⟩
theorem HeapM.Fit.add {H : HeapM} {N : Nat} (h : H.Fit N) (o : ObjM) (hk : 1 ≤ o.kind ∧ o.kind ≤ 12) (hp : o.pairs = []) : (H.add o).Fit (N + o.items.length + 2) :=
  ⟨by have := h.G.add o; simpa [ObjM.vals, hp] using this, fun p hp' => by
    rcases List.mem_append.1 hp' with h1 | h1
    · exact h.K p h1
    · simp at h1; subst h1; exact hk, fun p hp' => by
    rcases List.mem_append.1 hp' with h1 | h1
    · exact h.P p h1
    · simp at h1; subst h1; exact ⟨by simp [hp], by simp [hp], by simp [hp]⟩⟩
theorem PairsOk.put {L : List (V × V)} (h : PairsOk L) (k x : V) (hp : putOk L k = true) : PairsOk (putL L k x) := by
  cases g : getL L k with
  | none =>
    simp only [putOk, g, Option.isSome_none, Bool.false_or, Bool.and_eq_true, decide_eq_true_eq] at hp
    refine ⟨nodup_putL h.nd k x, fun q hq => ?_, ?_⟩
    · rw [putL_none x g] at hq
      rcases List.mem_append.1 hq with h1 | h1
      · exact h.key q h1
      · simp at h1; subst h1; exact hp.1
    · rw [putL_none x g]; simp; omega
  | some y =>
    refine ⟨nodup_putL h.nd k x, fun q hq => ?_, ?_⟩
    · rw [putL_some x g] at hq
      obtain ⟨p, hp', e⟩ := List.mem_map.1 hq
      by_cases hk : p.1 = k
      · rw [if_pos hk] at e; subst e; show k.isKey = true; rw [← hk]; exact h.key p hp'
      · rw [if_neg hk] at e; subst e; exact h.key p hp'
    · rw [putL_some x g]; simpa using h.len
theorem HeapM.Fit.put {H : HeapM} {N : Nat} (h : H.Fit N) (v k x : V) : (H.put v k x).Fit (N + 1) := by
  have G := h.G.put v k x
  revert G
  unfold HeapM.put
  cases g : H.of v with
  | none => exact fun G => h.more (by omega)
  | some o =>
    simp only
    split
    · rename_i hp
      exact fun G => h.set g _ rfl ((h.P _ (getL_mem (HeapM.of_some g).2)).put k x hp) G
    · exact fun G => h.more (by omega)
theorem HeapM.Fit.replace {H : HeapM} {N : Nat} (h : H.Fit N) (v : V) (i j : Int) (l : List V) : (H.replace v i j l).Fit (N + l.length) := by
  have G := h.G.replace v i j l
  revert G
  unfold HeapM.replace
  cases g : H.of v with
  | none => exact fun G => h.more (by omega)
  | some o =>
    simp only
    split
    · exact fun G => h.set g _ rfl (h.P _ (getL_mem (HeapM.of_some g).2)) G
    · exact fun G => h.more (by omega)
theorem HeapM.last_put (H : HeapM) (v k x : V) : (H.put v k x).last = H.last := by unfold HeapM.put; split <;> (try split) <;> rfl
theorem HeapM.last_replace (H : HeapM) (v : V) (i j : Int) (l : List V) : (H.replace v i j l).last = H.last := by unfold HeapM.replace; split <;> (try split) <;> rfl
/-- The objects of a graph, and what an edge does. -/
def objM (ks : List Nat) (i : Nat) : ObjM := ⟨kindM ks i, ⟨#[120]⟩, ((i % 100 : Nat) : Int), [], [], okI_of (by have := kindM_ok ks i; omega), okI_of (by omega), by decide⟩
def baseM (f : Nat → ObjM) : Nat → HeapM
  | 0 => ⟨[], 0⟩
  | k + 1 => (baseM f k).add (f k)
theorem baseM_last (f : Nat → ObjM) : ∀ k, (baseM f k).last = (k : Int)
  | 0 => rfl
  | k + 1 => by show (baseM f k).last + 1 = _; rw [baseM_last f k]; omega
theorem baseM_objs (f : Nat → ObjM) : ∀ k, (baseM f k).objs = (List.range k).map fun i : Nat => ((i : Int) + 1, f i)
  | 0 => rfl
  | k + 1 => by
    show (baseM f k).objs ++ [((baseM f k).last + 1, f k)] = _
    rw [baseM_objs f k, baseM_last, List.range_succ, List.map_append]; rfl
theorem baseM_fit (f : Nat → ObjM) (hf : ∀ i, (1 ≤ (f i).kind ∧ (f i).kind ≤ 12) ∧ (f i).items = [] ∧ (f i).pairs = []) : ∀ k, (baseM f k).Fit (2 * k)
  | 0 => fit_empty
  | k + 1 => by
    have := (baseM_fit f hf k).add (f k) (hf k).1 (hf k).2.2
    rw [(hf k).2.1] at this
    exact this.more (by simp; omega)
theorem objM_ok (ks : List Nat) (i : Nat) : (1 ≤ (objM ks i).kind ∧ (objM ks i).kind ≤ 12) ∧ (objM ks i).items = [] ∧ (objM ks i).pairs = [] := ⟨kindM_ok ks i, rfl, rfl⟩
def nodeV (b n : Nat) (x : Nat) : V := V.ref (1 + ((b % 100 + x % (n % 100 + 1) : Nat) : Int)) (okI_of (by have := Nat.mod_lt x (show 0 < n % 100 + 1 by omega); omega))
def keyM (x : Nat) : V := ⟨2, ((x % 256 : Nat) : Int), ⟨#[]⟩, by decide, okI_of (by omega), by decide⟩
/-- (m: how many objects, less one.) -/
def edgeM (b m : Nat) (H : HeapM) (e : Nat × Nat × Nat) : HeapM :=
  if e.2.2 % 2 = 1 then H.put (nodeV b m e.1) (keyM e.2.2) (nodeV b m e.2.1) else H.replace (nodeV b m e.1) 0 0 [nodeV b m e.2.1]
def wireM (b m : Nat) (H : HeapM) (es : List (Nat × Nat × Nat)) : HeapM := es.foldl (edgeM b m) H
theorem edgeM_fit {b m : Nat} {H : HeapM} {N : Nat} (h : H.Fit N) (e : Nat × Nat × Nat) : (edgeM b m H e).Fit (N + 1) := by
  unfold edgeM
  split
  · exact h.put _ _ _
  · exact h.replace _ 0 0 [_]
theorem wireM_fit {b m : Nat} {H : HeapM} {N : Nat} (h : H.Fit N) : ∀ es : List (Nat × Nat × Nat), (wireM b m H es).Fit (N + es.length) := by
  intro es
  induction es generalizing H N with
  | nil => exact h
  | cons e es ih => exact (ih (edgeM_fit h e)).more (by simp; omega)
theorem wireM_snoc (b m : Nat) (H : HeapM) (es : List (Nat × Nat × Nat)) (e : Nat × Nat × Nat) : wireM b m H (es ++ [e]) = edgeM b m (wireM b m H es) e := by simp [wireM, List.foldl_append]
theorem wireM_last (b m : Nat) (H : HeapM) : ∀ es : List (Nat × Nat × Nat), (wireM b m H es).last = H.last := by
  intro es
  induction es generalizing H with
  | nil => rfl
  | cons e es ih =>
    show (wireM b m (edgeM b m H e) es).last = _
    rw [ih]
    unfold edgeM
    split
    · exact HeapM.last_put _ _ _ _
    · exact HeapM.last_replace _ _ _ _ _
def baseG (ks : List Nat) (k : Nat) : HeapM := baseM (objM ks) k
def madeK (g : GraphM) (k : Nat) : HeapM := wireM 0 (manyM g.kinds - 1) (baseG g.kinds (manyM g.kinds)) (g.edges.take k)
def madeM (g : GraphM) : HeapM := madeK g 40
theorem madeK_fit (g : GraphM) (k : Nat) (hk : k ≤ 40) : (madeK g k).Fit 100 := by
  have h1 := baseM_fit (objM g.kinds) (objM_ok g.kinds) (manyM g.kinds)
  have h2 := manyM_le g.kinds
  exact (wireM_fit h1 (g.edges.take k)).more (by have := List.length_take_le k g.edges; omega)
theorem baseG_fit (ks : List Nat) (k : Nat) (hk : k ≤ 12) : (baseG ks k).Fit 100 := (baseM_fit (objM ks) (objM_ok ks) k).more (by omega)
end Go.Proofs.Ytjinabglachglaa
/- Graphs: made. -/
namespace Go.Proofs.Ytjinabglachglaa
set_option linter.unusedSimpArgs false
open Go.RowKit
set_option linter.unusedVariables false
theorem bits_odd (x : Nat) (hx : x < 256) : (bits BinOp.and IntKind.u8 (x : Int) 1 == 1) = decide (x % 2 = 1) := by
  have : ∀ y : Fin 256, (bits BinOp.and IntKind.u8 ((y : Nat) : Int) 1 == 1) = decide ((y : Nat) % 2 = 1) := by decide +kernel
  exact this ⟨x, hx⟩
section
variable {w W : World} {Rs : List Res} {h y : Nat}
theorem g_make (S : Sep w Rs W) (ks : List Nat) (k : Nat) (hk : k < 12) (i : Nat) (hi : Rs[i]? = some (heapR h (baseG ks k))) : Calls Try.prog 26 #[.pointer (some ⟨h, 0, none⟩), .int .i64 (kindM ks k), .string ⟨#[120]⟩, .int .i64 k, .slice none 0 0] W fun e W' => e = .returned (.agg #[.int .i64 4, .int .i64 ((baseG ks k).last + 1), .string ⟨#[]⟩]) ∧ Sep w (Rs.set i (heapR h (baseG ks (k + 1)))) W' := by
  have := S.make i hi (baseG_fit ks k (by omega)).G (by omega) (objM ks k) (.slice none 0 0) (sees_none W) (by simp [objM]) rfl (objM_ok ks k).1.1 (objM_ok ks k).1.2
  have hn : (objM ks k).num = (k : Int) := by show ((k % 100 : Nat) : Int) = k; omega
  rw [hn] at this
  exact this
theorem y_make (ks : List Nat) (k : Nat) (S : Sep w (refR y (baseG ks k) :: Rs) W) (hk : k < 12) : Calls Try.prog 49 #[.pointer (some ⟨y, 0, none⟩), .int .i64 (kindM ks k), .string ⟨#[120]⟩, .int .i64 k, .slice none 0 0] W fun e W' => e = .returned (.agg #[.int .i64 4, .int .i64 ((baseG ks k).last + 1), .string ⟨#[]⟩]) ∧ Sep w (refR y (baseG ks (k + 1)) :: Rs) W' := by
  have := ref_make S (baseG_fit ks k (by omega)).G (objM ks k) rfl (objM_ok ks k).1.1 (objM_ok ks k).1.2 (.slice none 0 0) (fun W1 _ => sees_none W1) (by omega) (by simp [objM])
  have hn : (objM ks k).num = (k : Int) := by show ((k % 100 : Nat) : Int) = k; omega
  rw [hn] at this
  exact this
theorem refNew (S : Sep w Rs W) : Sep w (refR W.heap.size ⟨[], 0⟩ :: Rs) (W.alloc (.cells #[.slice none 0 0, .int .i64 0] 78)) := by
  have h1 := S.addRow (Below.refl _ _) (e := 102) (m := 1) (f := RRow.ptr) (v := .slice none 0 0) (l := []) (World.ownsRow_nil _ _ _ _) (by simp [Value.ownBlock])
  have h2 := h1.alloc (.cells #[.slice none 0 0, .int .i64 0] 78)
  exact Sep.shutRef (H := ⟨[], 0⟩) (rows := []) (sv := .slice none 0 0) h2 rfl
set_option maxRecDepth 100000 in
set_option maxHeartbeats 3200000 in
theorem graph_ok (S : Sep w Rs W) (kv ev hv : Value) (g : GraphM) (hg : SeesG w kv ev hv g) :
    Calls Try.prog 18 #[.agg #[kv, ev, hv]] W fun e W' => ∃ h y, e = .returned (.tuple #[.pointer (some ⟨h, 0, none⟩), .pointer (some ⟨y, 0, none⟩)]) ∧ Sep w (refR y (madeM g) :: heapR h (madeM g) :: Rs) W' := by
  have HG := Lib.hid hg
  obtain ⟨ka, kc, rfl, -, -, -⟩ := hg.kinds
  obtain ⟨ea, ec, rfl, -, -, -⟩ := hg.edges
  obtain ⟨da, dc, rfl, -, -, -⟩ := hg.held
  obtain ⟨bx, hbx⟩ : ∃ bx, W.heap.size = bx := ⟨_, rfl⟩
  have S0 := S.alloc (.cells #[.slice ka g.kinds.length kc, .slice ea g.edges.length ec, .slice da g.held.length dc] 28)
  have N0 := Lib.hid (Sep.new S0)
  rw [hbx] at N0
  have HBX := Lib.hid hbx
  clear S S0 hg
  go_enter Try.func18, Try.ntmps18
  go_wp2_with fail
  refine N0.out.mono ?_
  rintro e w1 ⟨h, rfl, S1, -⟩
  have S2 := refNew S1
  obtain ⟨y, hy⟩ : ∃ y, w1.heap.size = y := ⟨_, rfl⟩
  have M := Lib.hid (many_ok (w1.alloc (.cells #[.slice none 0 0, .int .i64 0] 78)) _ (.slice ea g.edges.length ec) (.slice da g.held.length dc) g.kinds (HG.out.kinds.below S2.below))
  have c0 := cellAt (S2.box 2 rfl) 0 (v := .slice ka g.kinds.length kc) rfl
  have c1 := cellAt (S2.box 2 rfl) 1 (v := .slice ea g.edges.length ec) rfl
  have c2 := cellAt (S2.box 2 rfl) 2 (v := .slice da g.held.length dc) rfl
  replace S2 := Lib.hid S2
  clear N0 S1 hbx
  go_wp2_with fail
  refine M.out.mono ?_
  rintro e w2 ⟨rfl, b2⟩
  have S3 := S2.out.later b2
  rw [hy] at S3
  clear S2 b2 M c0 c1 c2 hy
  have hm := manyM_le g.kinds
  obtain ⟨n, hn⟩ : ∃ n, manyM g.kinds = n := ⟨_, rfl⟩
  rw [hn] at hm ⊢
  have HN := Lib.hid (And.intro hn hm)
  obtain ⟨hm1, hm2⟩ := hm
  have hni : (n : Int) ≤ 12 := by omega
  replace S3 : Sep w (refR y (baseG g.kinds 0) :: heapR h (baseG g.kinds 0) :: boxR bx (.cells #[.slice ka g.kinds.length kc, .slice ea g.edges.length ec, .slice da g.held.length dc] 28) :: Rs) w2 := S3
  replace S3 := Lib.hid S3
  clear hn
  go_wp2
  go_loopw [7] (fun i wr => ∃ k : Nat, k ≤ n ∧ i = .int .i64 k ∧ Sep w (refR y (baseG g.kinds k) :: heapR h (baseG g.kinds k) :: boxR bx (.cells #[.slice ka g.kinds.length kc, .slice ea g.edges.length ec, .slice da g.held.length dc] 28) :: Rs) wr) (fun i _ => n - (intOf i).toNat)
  case atStart => exact ⟨0, by omega, rfl, S3.out⟩
  case round =>
    clear S3
    obtain ⟨k, hk, rfl, S4⟩ := hrel
    by_cases hlt : k < n
    · have hlti : (k : Int) < n := by omega
      have c0 := cellAt (S4.box 2 rfl) 0 (v := .slice ka g.kinds.length kc) rfl
      have c1 := cellAt (S4.box 2 rfl) 1 (v := .slice ea g.edges.length ec) rfl
      have c2 := cellAt (S4.box 2 rfl) 2 (v := .slice da g.held.length dc) rfl
      have K1 := Lib.hid (fun W1 (T : Sep w (refR y (baseG g.kinds k) :: heapR h (baseG g.kinds k) :: boxR bx (.cells #[.slice ka g.kinds.length kc, .slice ea g.edges.length ec, .slice da g.held.length dc] 28) :: Rs) W1) => kind_ok W1 _ (.slice ea g.edges.length ec) (.slice da g.held.length dc) g.kinds (HG.out.kinds.below T.below) k (by omega))
      replace S4 := Lib.hid S4
      go_wp2_with fail
      refine (K1.out _ S4.out).mono ?_
      rintro e w3 ⟨rfl, b3⟩
      have M1 := Lib.hid (g_make (S4.out.later b3) g.kinds k (by omega) 1 rfl)
      clear K1 S4 b3 c0 c1 c2
      go_wp2_with fail
      refine M1.out.mono ?_
      rintro e w4 ⟨rfl, S5⟩
      replace S5 : Sep w (refR y (baseG g.kinds k) :: heapR h (baseG g.kinds (k + 1)) :: boxR bx (.cells #[.slice ka g.kinds.length kc, .slice ea g.edges.length ec, .slice da g.held.length dc] 28) :: Rs) w4 := S5
      have c0 := cellAt (S5.box 2 rfl) 0 (v := .slice ka g.kinds.length kc) rfl
      have c1 := cellAt (S5.box 2 rfl) 1 (v := .slice ea g.edges.length ec) rfl
      have c2 := cellAt (S5.box 2 rfl) 2 (v := .slice da g.held.length dc) rfl
      have K2 := Lib.hid (kind_ok w4 _ (.slice ea g.edges.length ec) (.slice da g.held.length dc) g.kinds (HG.out.kinds.below S5.below) k (by omega))
      replace S5 := Lib.hid S5
      clear M1
      go_wp2_with fail
      refine K2.out.mono ?_
      rintro e w5 ⟨rfl, b5⟩
      have M2 := Lib.hid (y_make g.kinds k (S5.out.later b5) (by omega))
      clear K2 S5 b5 c0 c1 c2
      go_wp2_with fail
      refine M2.out.mono ?_
      rintro e w6 ⟨rfl, S6⟩
      replace S6 := Lib.hid S6
      clear M2
      go_wp2
      exact ⟨⟨k + 1, by omega, by go_num, S6.out⟩, by simp [intOf]; omega⟩
    · obtain rfl : k = n := by omega
      have hlti : ¬ (k : Int) < k := by omega
      have S5 : Sep w (refR y (madeK g 0) :: heapR h (madeK g 0) :: boxR bx (.cells #[.slice ka g.kinds.length kc, .slice ea g.edges.length ec, .slice da g.held.length dc] 28) :: Rs) wr := by
        have e : madeK g 0 = baseG g.kinds k := by unfold madeK; rw [HN.out.1]; rfl
        rw [e]; exact S4
      have hel : (g.edges.length : Int) ≤ 9223372036854775807 := by
        obtain ⟨_, _, _, h1, _⟩ := HG.out.edges
        unfold maxLen at h1; omega
      replace S5 := Lib.hid S5
      clear S4 hlt
      go_wp2
      go_loopw [8] (fun i wr => ∃ j : Nat, j ≤ g.edges.length ∧ j ≤ 40 ∧ i = .int .i64 j ∧ Sep w (refR y (madeK g j) :: heapR h (madeK g j) :: boxR bx (.cells #[.slice ka g.kinds.length kc, .slice ea g.edges.length ec, .slice da g.held.length dc] 28) :: Rs) wr) (fun i _ => 40 - (intOf i).toNat)
      case atStart => exact ⟨0, by omega, by omega, rfl, S5.out⟩
      case round =>
        clear S5
        obtain ⟨j, hj, hj40, rfl, S6⟩ := hrel
        have c0 := cellAt (S6.box 2 rfl) 0 (v := .slice ka g.kinds.length kc) rfl
        have c1 := cellAt (S6.box 2 rfl) 1 (v := .slice ea g.edges.length ec) rfl
        have c2 := cellAt (S6.box 2 rfl) 2 (v := .slice da g.held.length dc) rfl
        by_cases hlt : j < g.edges.length ∧ j < 40
        · have h1 : (j : Int) < g.edges.length := by omega
          have h2 : (j : Int) < 40 := by omega
          obtain ⟨⟨a1, a2, a3⟩, hx⟩ : ∃ x, g.edges[j]? = some x := ⟨g.edges[j]'hlt.1, by simp [hlt.1]⟩
          obtain ⟨_, _, e0, _, hb, hc⟩ := HG.out.edges
          cases e0
          have hb' := hb _ (List.mem_of_getElem? hx)
          have hc2 := hc.resolve_left (fun h => by rw [h] at hlt; simp at hlt)
          obtain ⟨eg, eo, rfl, hcc⟩ := hc2
          obtain ⟨x0, x1, x2⟩ := hcc j _ hx
          have d0 := cellBelow x0 S6.below
          have d1 := cellBelow x1 S6.below
          have d2 := cellBelow x2 S6.below
          simp only at d0 d1 d2 hb'
          have hr1 : 0 ≤ (a1 : Int) % k ∧ (a1 : Int) % k < k := ⟨Int.emod_nonneg _ (by omega), Int.emod_lt_of_pos _ (by omega)⟩
          have hr2 : 0 ≤ (a2 : Int) % k ∧ (a2 : Int) % k < k := ⟨Int.emod_nonneg _ (by omega), Int.emod_lt_of_pos _ (by omega)⟩
          obtain ⟨n1, hn1⟩ : ∃ n1 : Int, 1 + (a1 : Int) % k = n1 := ⟨_, rfl⟩
          obtain ⟨n2, hn2⟩ : ∃ n2 : Int, 1 + (a2 : Int) % k = n2 := ⟨_, rfl⟩
          have hf1 : wrap64 (1 + (a1 : Int) % k) = n1 := by rw [wrap64_id _ (by omega)]; exact hn1
          have hf2 : wrap64 (1 + (a2 : Int) % k) = n2 := by rw [wrap64_id _ (by omega)]; exact hn2
          have v1 : (nodeV 0 (k - 1) a1).val = .agg #[.int .i64 4, .int .i64 n1, .string ⟨#[]⟩] := by
            have : (nodeV 0 (k - 1) a1).n = n1 := by
              show 1 + ((0 % 100 + a1 % ((k - 1) % 100 + 1) : Nat) : Int) = n1
              have : (k - 1) % 100 + 1 = k := by omega
              rw [this, ← hn1]; simp
            rw [← this]; rfl
          have v2 : (nodeV 0 (k - 1) a2).val = .agg #[.int .i64 4, .int .i64 n2, .string ⟨#[]⟩] := by
            have : (nodeV 0 (k - 1) a2).n = n2 := by
              show 1 + ((0 % 100 + a2 % ((k - 1) % 100 + 1) : Nat) : Int) = n2
              have : (k - 1) % 100 + 1 = k := by omega
              rw [this, ← hn2]; simp
            rw [← this]; rfl
          have v3 : (keyM a3).val = .agg #[.int .i64 2, .int .i64 a3, .string ⟨#[]⟩] := by
            have : (keyM a3).n = a3 := by show ((a3 % 256 : Nat) : Int) = a3; omega
            rw [← this]; rfl
          have HV := Lib.hid (And.intro v1 (And.intro v2 v3))
          obtain ⟨bE, hbE⟩ : ∃ b, wr.heap.size = b := ⟨_, rfl⟩
          have S7 := S6.alloc (.cells #[.int .u8 a1, .int .u8 a2, .int .u8 a3] 48)
          rw [hbE] at S7
          replace S7 := Lib.hid S7
          have HX := Lib.hid hx
          clear hb hc hcc x0 x1 x2 S6 hr1 hr2 hn1 hn2 v1 v2 v3 hx
          go_wp2_with fail
          refine (ref_ok _ _).mono ?_
          rintro e w3 ⟨rfl, b3⟩
          have S8 := S7.out.later b3
          obtain ⟨bF, hbF⟩ : ∃ b, w3.heap.size = b := ⟨_, rfl⟩
          have S9 := S8.alloc (.cells #[.int .i64 4, .int .i64 n1, .string ⟨#[]⟩] 41)
          rw [hbF] at S9
          have f0 := cellAt (S9.box 1 rfl) 0 (v := .int .u8 a1) rfl
          have f1 := cellAt (S9.box 1 rfl) 1 (v := .int .u8 a2) rfl
          have f2 := cellAt (S9.box 1 rfl) 2 (v := .int .u8 a3) rfl
          replace S9 := Lib.hid S9
          clear S7 S8 b3 d0 d1 d2 c0 c1 c2
          go_wp2_with fail
          refine (ref_ok _ _).mono ?_
          rintro e w4 ⟨rfl, b4⟩
          have S10 := S9.out.later b4
          clear f0 f1 f2
          obtain ⟨bT, hbT⟩ : ∃ b, w4.heap.size = b := ⟨_, rfl⟩
          have S11 := S10.alloc (.cells #[.int .i64 4, .int .i64 n2, .string ⟨#[]⟩] 41)
          rw [hbT] at S11
          have f2 := cellAt (S11.box 2 rfl) 2 (v := .int .u8 a3) rfl
          replace S11 := Lib.hid S11
          clear S9 S10 b4
          by_cases hodd : a3 % 2 = 1
          · have ho : (bits BinOp.and IntKind.u8 (a3 : Int) 1 == 1) = true := by rw [bits_odd a3 hb'.2.2]; simpa using hodd
            have hnext : madeK g (j + 1) = (madeK g j).put (nodeV 0 (k - 1) a1) (keyM a3) (nodeV 0 (k - 1) a2) := by
              unfold madeK
              rw [List.take_add_one, HX.out, Option.toList_some, wireM_snoc, HN.out.1]
              show edgeM _ _ _ _ = _
              unfold edgeM
              rw [if_pos hodd]
            have S12 := S11.out.alloc (.cells #[.int .i64 2, .int .i64 a3, .string ⟨#[]⟩] 41)
            rw [World.size_alloc, hbT] at S12
            have p0 := cellAt (S12.box 2 rfl) 0 (v := .int .i64 4) rfl
            have p1 := cellAt (S12.box 2 rfl) 1 (v := .int .i64 n1) rfl
            have p2 := cellAt (S12.box 2 rfl) 2 (v := .string ⟨#[]⟩) rfl
            have q0 := cellAt (S12.box 1 rfl) 0 (v := .int .i64 4) rfl
            have q1 := cellAt (S12.box 1 rfl) 1 (v := .int .i64 n2) rfl
            have q2 := cellAt (S12.box 1 rfl) 2 (v := .string ⟨#[]⟩) rfl
            have r0 := cellAt (S12.box 0 rfl) 0 (v := .int .i64 2) rfl
            have r1 := cellAt (S12.box 0 rfl) 1 (v := .int .i64 a3) rfl
            have r2 := cellAt (S12.box 0 rfl) 2 (v := .string ⟨#[]⟩) rfl
            have P1 := S12.put 5 rfl (nodeV 0 (k - 1) a1) (keyM a3) (nodeV 0 (k - 1) a2)
            rw [HV.out.1, HV.out.2.1, HV.out.2.2, ← hnext] at P1
            replace P1 := Lib.hid P1
            have HNX := Lib.hid hnext
            clear S11 S12 hodd hnext
            go_wp2_with fail
            refine P1.out.mono ?_
            rintro e w5 ⟨rfl, S13⟩
            clear p0 p1 p2 q0 q1 q2 r0 r1 r2 f2 P1
            replace S13 : Sep w (boxR (bT + 1) (.cells #[.int .i64 2, .int .i64 a3, .string ⟨#[]⟩] 41) :: boxR bT (.cells #[.int .i64 4, .int .i64 n2, .string ⟨#[]⟩] 41) :: boxR bF (.cells #[.int .i64 4, .int .i64 n1, .string ⟨#[]⟩] 41) :: refR y (madeK g j) :: heapR h (madeK g (j + 1)) :: boxR bx (.cells #[.slice ka g.kinds.length kc, .slice (some ⟨eg, eo, none⟩) g.edges.length ec, .slice da g.held.length dc] 28) :: Rs) w5 := S13.sub (.cons_cons _ (.cons_cons _ (.cons_cons _ (.cons _ (List.Sublist.refl _)))))
            have p0 := cellAt (S13.box 2 rfl) 0 (v := .int .i64 4) rfl
            have p1 := cellAt (S13.box 2 rfl) 1 (v := .int .i64 n1) rfl
            have p2 := cellAt (S13.box 2 rfl) 2 (v := .string ⟨#[]⟩) rfl
            have q0 := cellAt (S13.box 1 rfl) 0 (v := .int .i64 4) rfl
            have q1 := cellAt (S13.box 1 rfl) 1 (v := .int .i64 n2) rfl
            have q2 := cellAt (S13.box 1 rfl) 2 (v := .string ⟨#[]⟩) rfl
            have r0 := cellAt (S13.box 0 rfl) 0 (v := .int .i64 2) rfl
            have r1 := cellAt (S13.box 0 rfl) 1 (v := .int .i64 a3) rfl
            have r2 := cellAt (S13.box 0 rfl) 2 (v := .string ⟨#[]⟩) rfl
            have hfit := madeK_fit g j hj40
            have P2 := ref_put (S13.sub (.cons _ (.cons _ (.cons _ (List.Sublist.refl _))))) hfit.G.ok.nk hfit.P (nodeV 0 (k - 1) a1) (keyM a3) (nodeV 0 (k - 1) a2)
            rw [HV.out.1, HV.out.2.1, HV.out.2.2, ← HNX.out] at P2
            replace P2 := Lib.hid P2
            clear S13 hfit
            go_wp2_with fail
            refine P2.out.mono ?_
            rintro e w6 ⟨rfl, S14⟩
            replace S14 := Lib.hid S14
            clear p0 p1 p2 q0 q1 q2 r0 r1 r2 P2
            go_wp2
            exact ⟨⟨j + 1, by omega, by omega, by go_num, S14.out⟩, by simp [intOf]; omega⟩
          · have ho : (bits BinOp.and IntKind.u8 (a3 : Int) 1 == 1) = false := by rw [bits_odd a3 hb'.2.2]; simpa using hodd
            have hnext : madeK g (j + 1) = (madeK g j).replace (nodeV 0 (k - 1) a1) 0 0 [nodeV 0 (k - 1) a2] := by
              unfold madeK
              rw [List.take_add_one, HX.out, Option.toList_some, wireM_snoc, HN.out.1]
              show edgeM _ _ _ _ = _
              unfold edgeM
              rw [if_neg hodd]
            have hsees : ∀ {bk : Nat} {W : World}, W.heap[bk]? = some (.cells #[.int .i64 4, .int .i64 n2, .string ⟨#[]⟩] 41) → SeesV W (.slice (some ⟨bk, 0, none⟩) 1 1) [nodeV 0 (k - 1) a2] := fun hb => by
              have h1 := HV.out.2.1
              unfold V.val at h1
              simp only [Value.agg.injEq, Array.mk.injEq, List.cons.injEq, Value.int.injEq, Value.string.injEq, true_and, and_true] at h1
              exact sees_one _ h1.1 h1.2.1 h1.2.2 hb
            have HSE := Lib.hid (fun (bk : Nat) (W : World) (hb : W.heap[bk]? = some (.cells #[.int .i64 4, .int .i64 n2, .string ⟨#[]⟩] 41)) => hsees hb)
            have S12 := S11.out.alloc (.cells #[.int .i64 4, .int .i64 n2, .string ⟨#[]⟩] 41)
            rw [World.size_alloc, hbT] at S12
            have p0 := cellAt (S11.out.box 1 rfl) 0 (v := .int .i64 4) rfl
            have p1 := cellAt (S11.out.box 1 rfl) 1 (v := .int .i64 n1) rfl
            have p2 := cellAt (S11.out.box 1 rfl) 2 (v := .string ⟨#[]⟩) rfl
            have q0 := cellAt (S11.out.box 0 rfl) 0 (v := .int .i64 4) rfl
            have q1 := cellAt (S11.out.box 0 rfl) 1 (v := .int .i64 n2) rfl
            have q2 := cellAt (S11.out.box 0 rfl) 2 (v := .string ⟨#[]⟩) rfl
            have hfit := madeK_fit g j hj40
            have P1 := S12.replace 5 rfl hfit.G (nodeV 0 (k - 1) a1) 0 0 _ _ (hsees (S12.box 0 rfl)) (by simp)
            rw [HV.out.1, ← hnext] at P1
            replace P1 := Lib.hid P1
            have HNX := Lib.hid hnext
            clear S11 S12 hodd hnext hsees hfit
            go_wp2_with fail
            refine P1.out.mono ?_
            rintro e w5 ⟨rfl, S13⟩
            clear p0 p1 p2 q0 q1 q2 f2 P1
            replace S13 : Sep w (boxR bT (.cells #[.int .i64 4, .int .i64 n2, .string ⟨#[]⟩] 41) :: boxR bF (.cells #[.int .i64 4, .int .i64 n1, .string ⟨#[]⟩] 41) :: refR y (madeK g j) :: heapR h (madeK g (j + 1)) :: boxR bx (.cells #[.slice ka g.kinds.length kc, .slice (some ⟨eg, eo, none⟩) g.edges.length ec, .slice da g.held.length dc] 28) :: Rs) w5 := S13.sub (.cons _ (.cons_cons _ (.cons_cons _ (.cons _ (List.Sublist.refl _)))))
            have p0 := cellAt (S13.box 1 rfl) 0 (v := .int .i64 4) rfl
            have p1 := cellAt (S13.box 1 rfl) 1 (v := .int .i64 n1) rfl
            have p2 := cellAt (S13.box 1 rfl) 2 (v := .string ⟨#[]⟩) rfl
            have q0 := cellAt (S13.box 0 rfl) 0 (v := .int .i64 4) rfl
            have q1 := cellAt (S13.box 0 rfl) 1 (v := .int .i64 n2) rfl
            have q2 := cellAt (S13.box 0 rfl) 2 (v := .string ⟨#[]⟩) rfl
            obtain ⟨bU, hbU⟩ : ∃ b, w5.heap.size = b := ⟨_, rfl⟩
            have S14 := S13.sub (.cons _ (.cons _ (List.Sublist.refl _)))
            replace S14 := S14.alloc (.cells #[.int .i64 4, .int .i64 n2, .string ⟨#[]⟩] 41)
            rw [hbU] at S14
            replace S14 := S14.swap
            have hfit := madeK_fit g j hj40
            have P2 := ref_replace S14 hfit.G (nodeV 0 (k - 1) a1) 0 0 (.slice (some ⟨bU, 0, none⟩) 1 1) _ (fun W1 T => HSE.out bU W1 (T.box 0 rfl)) (by simp)
            rw [HV.out.1, ← HNX.out] at P2
            replace P2 := Lib.hid P2
            clear S13 S14 hfit
            go_wp2_with fail
            refine P2.out.mono ?_
            rintro e w6 ⟨rfl, S15⟩
            replace S15 := Lib.hid (S15.swap.tail)
            clear p0 p1 p2 q0 q1 q2 P2
            go_wp2
            exact ⟨⟨j + 1, by omega, by omega, by go_num, S15.out⟩, by simp [intOf]; omega⟩
        · have hend : madeK g j = madeM g := by
            unfold madeM madeK
            congr 1
            by_cases h : g.edges.length ≤ 40
            · rw [List.take_of_length_le (by omega), List.take_of_length_le h]
            · rw [show j = 40 by omega]
          rw [hend] at S6
          have S7 := Lib.hid (S6.sub (.cons_cons _ (.cons_cons _ (.cons _ (List.Sublist.refl _)))))
          clear S6 hend
          by_cases h1 : j < g.edges.length
          · have h1' : (j : Int) < g.edges.length := by omega
            have h2' : ¬ (j : Int) < 40 := by omega
            clear hlt
            go_wp2
            exact bodyPost_ret (v := .tuple #[.pointer (some ⟨h, 0, none⟩), .pointer (some ⟨y, 0, none⟩)]) (by simp [results, Try.results18, go_sem]) rfl ⟨h, y, rfl, S7.out⟩
          · have h1' : ¬ (j : Int) < g.edges.length := by omega
            clear hlt
            go_wp2
            exact bodyPost_ret (v := .tuple #[.pointer (some ⟨h, 0, none⟩), .pointer (some ⟨y, 0, none⟩)]) (by simp [results, Try.results18, go_sem]) rfl ⟨h, y, rfl, S7.out⟩
end
end Go.Proofs.Ytjinabglachglaa
/- A graph that came in. -/
namespace Go.Proofs.Ytjinabglachglaa
set_option linter.unusedSimpArgs false
open Go.ChangeShapes Go.WideShapes Go.ChangeAt Go.RowKit
set_option linter.unusedVariables false
section
variable {H : Type} {enc : TypeId × Value → H} {w : World} {base : Nat} {spare : Nat → Bool} {held : Bool}
theorem graphCells : Try.prog.cellsOf 28 = 3 ∧ Try.prog.cellsOf 22 = 1 ∧ Try.prog.cellsOf 26 = 1 ∧ Try.prog.cellsOf 48 = 3 ∧ Try.prog.cellsOf 5 = 1 := ⟨by kernel_rfl, by kernel_rfl, by kernel_rfl, by kernel_rfl, by kernel_rfl⟩
set_option maxRecDepth 100000 in
theorem edge_of_trod {n : Nat} {cs : List Value} {y : DataW H × List MemPlace} (h : DataW.trod enc Try.prog w base spare held n 48 cs = some y) : ∃ e : Nat × Nat × Nat, cs = [.int .u8 (e.1 : Int), .int .u8 (e.2.1 : Int), .int .u8 (e.2.2 : Int)] ∧ e.1 < 256 ∧ e.2.1 < 256 ∧ e.2.2 < 256 := by
  obtain ⟨xs, n', _, hx, hlen, hxl, hf⟩ := DataW.trod_array Try.underlying48 h
  rw [graphCells.2.2.2.1] at hlen
  match cs, hlen with
  | [c0, c1, c2], _ =>
    match xs, hxl with
    | [y0, y1, y2], _ =>
      have h0 : DataW.trod enc Try.prog w base spare held n' 5 [c0] = some y0 := by have := hf 0 (by omega); simpa [graphCells.2.2.2.2] using this
      have h1 : DataW.trod enc Try.prog w base spare held n' 5 [c1] = some y1 := by have := hf 1 (by omega); simpa [graphCells.2.2.2.2] using this
      have h2 : DataW.trod enc Try.prog w base spare held n' 5 [c2] = some y2 := by have := hf 2 (by omega); simpa [graphCells.2.2.2.2] using this
      obtain ⟨k0, e0, _, hk0⟩ := DataW.trod_int Try.underlying5 h0
      obtain ⟨k1, e1, _, hk1⟩ := DataW.trod_int Try.underlying5 h1
      obtain ⟨k2, e2, _, hk2⟩ := DataW.trod_int Try.underlying5 h2
      simp only [List.cons.injEq, and_true] at e0 e1 e2
      obtain ⟨b0, rfl, l0⟩ := byte_of hk0
      obtain ⟨b1, rfl, l1⟩ := byte_of hk1
      obtain ⟨b2, rfl, l2⟩ := byte_of hk2
      exact ⟨(b0, b1, b2), by rw [e0, e1, e2], l0, l1, l2⟩
instance : Inhabited (Nat × Nat × Nat) := ⟨(0, 0, 0)⟩
theorem open_edges {fuel : Nat} {v : Value} {x : DataW H × List MemPlace} (h : DataW.trod enc Try.prog w base spare held fuel 26 [v] = some x) : ∃ l, SeesE w v l := by
  rcases Deep.open_slice Try.underlying26 h with ⟨h0, _⟩ | ⟨a, len, cap, m, n, D, Pl, hcs, hb, hl, hm, hmm, hx, hi⟩
  · simp only [List.cons.injEq, and_true] at h0
    subst h0
    exact ⟨[], ⟨none, 0, rfl, by simp, by simp, .inl rfl⟩⟩
  · simp only [List.cons.injEq, and_true] at hcs
    subst hcs
    have hlm : len ≤ m := by rw [hmm]; split <;> omega
    rw [graphCells.2.2.2.1] at hi
    obtain ⟨f, hf⟩ : ∃ f : Nat → Nat × Nat × Nat, ∀ i, i < len → (w.cell? (a.add (i * 3)) = some (.int .u8 ((f i).1 : Int)) ∧ w.cell? (a.add (i * 3 + 1)) = some (.int .u8 ((f i).2.1 : Int)) ∧ w.cell? (a.add (i * 3 + 2)) = some (.int .u8 ((f i).2.2 : Int))) ∧ (f i).1 < 256 ∧ (f i).2.1 < 256 ∧ (f i).2.2 < 256 :=
      Deep.choose_lt (α := Nat × Nat × Nat) (p := fun i e => (w.cell? (a.add (i * 3)) = some (.int .u8 (e.1 : Int)) ∧ w.cell? (a.add (i * 3 + 1)) = some (.int .u8 (e.2.1 : Int)) ∧ w.cell? (a.add (i * 3 + 2)) = some (.int .u8 (e.2.2 : Int))) ∧ e.1 < 256 ∧ e.2.1 < 256 ∧ e.2.2 < 256) (fun i hil => by
        obtain ⟨cs, h1, h2⟩ := hi i (by omega)
        obtain ⟨e, rfl, he⟩ := edge_of_trod h2
        obtain ⟨_, _, h3⟩ := World.cells?_some h1
        refine ⟨e, ⟨?_, ?_, ?_⟩, he⟩
        · have := h3 0 (by omega); rw [Deep.add_add] at this; simpa using this
        · have := h3 1 (by omega); rw [Deep.add_add] at this; simpa using this
        · have := h3 2 (by omega); rw [Deep.add_add] at this; simpa using this)
    have hlen : ((List.range len).map f).length = len := by simp
    obtain ⟨g, o, spot⟩ := a
    refine ⟨(List.range len).map f, ⟨some ⟨g, o, spot⟩, cap, by rw [hlen], by rw [hlen]; omega, fun e he => ?_, ?_⟩⟩
    · obtain ⟨i, hi', rfl⟩ := List.mem_map.1 he
      exact (hf i (List.mem_range.1 hi')).2
    · rcases Nat.eq_zero_or_pos len with h0 | h0
      · left; subst h0; rfl
      · right
        have hs : spot = none := by
          have := (hf 0 h0).1.1
          simpa [Addr.add] using World.cell?_spot this
        subst hs
        refine ⟨g, o, rfl, fun i e hj => ?_⟩
        have hil : i < len := by have := (List.getElem?_eq_some_iff.1 hj).1; rwa [hlen] at this
        have hv' : f i = e := by rw [List.getElem?_map, List.getElem?_range hil] at hj; exact Option.some.inj hj
        have hadd : ∀ j, (⟨g, o, none⟩ : Addr).add j = ⟨g, o + j, none⟩ := fun j => by unfold Addr.add; split <;> simp_all
        have := (hf i hil).1
        rw [hadd, hadd, hadd, hv'] at this
        exact this
set_option maxRecDepth 100000 in
theorem open_graph {n : Nat} {cs : List Value} {y : DataW H × List MemPlace} (h : DataW.trod enc Try.prog w base spare held n 28 cs = some y) : ∃ kv ev hv g, cs = [kv, ev, hv] ∧ SeesG w kv ev hv g := by
  obtain ⟨xs, n', _, hx, hlen, hxl, hf⟩ := DataW.trod_struct Try.underlying28 h
  rw [graphCells.1] at hlen
  match cs, hlen with
  | [c0, c1, c2], _ =>
    match xs, hxl with
    | [y0, y1, y2], _ =>
      have h0 : DataW.trod enc Try.prog w base spare held n' 22 [c0] = some y0 := by have := hf 0 _ rfl; simpa [graphCells] using this
      have h1 : DataW.trod enc Try.prog w base spare held n' 26 [c1] = some y1 := by have := hf 1 _ rfl; simpa [graphCells] using this
      have h2 : DataW.trod enc Try.prog w base spare held n' 22 [c2] = some y2 := by have := hf 2 _ rfl; simpa [graphCells] using this
      obtain ⟨l0, s0⟩ := open_bytes h0
      obtain ⟨l1, s1⟩ := open_edges h1
      obtain ⟨l2, s2⟩ := open_bytes h2
      exact ⟨c0, c1, c2, ⟨l0, l1, l2⟩, rfl, s0, s1, s2⟩
end
end Go.Proofs.Ytjinabglachglaa
