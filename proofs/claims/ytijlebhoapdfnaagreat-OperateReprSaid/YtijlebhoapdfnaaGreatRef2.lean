import Derived.Test.YtijlebhoapdfnaaGreatRef1
import Derived.Test.YtijlebhoapdfnaaGreatRegU
import Derived.Test.YtijlebhoapdfnaaGreatOprN
import Derived.Test.YtijlebhoapdfnaaGreatCore
import Derived.Test.YtijlebhoapdfnaaGreatSep
import Derived.Test.YtijlebhoapdfnaaGreatRows3
import Derived.Test.YtijlebhoapdfnaaGreatLocal
/- ch 16: objects as they come in. -/
/- Pairs of values as they come in. -/
set_option maxRecDepth 100000
namespace Go.Proofs.YtijlebhoapdfnaaGreat
set_option linter.unusedSimpArgs false
open Go.ChangeShapes Go.WideShapes Go.ChangeAt Go.RowKit
set_option linter.unusedVariables false
def pairC (p : V × V) : List Value := p.1.cells ++ p.2.cells
theorem pairC_len (p : V × V) : (pairC p).length = 6 := rfl
section
variable {H : Type} {enc : TypeId × Value → H} {w : World} {base : Nat} {spare : Nat → Bool} {held : Bool}
theorem cellsP : Tryz.prog.cellsOf 25 = 6 := by kernel_rfl
theorem pair_of_trod {n : Nat} {cs : List Value} {y : DataW H × List MemPlace} (h : DataW.trod enc Tryz.prog w base spare held n 25 cs = some y) : ∃ p : V × V, cs = pairC p := by
 obtain ⟨xs, n', _, hx, hlen, hxl, hf⟩ := DataW.trod_array Tryz.underlying25 h
 rw [cellsP] at hlen
 match cs, hlen with
 | [c0, c1, c2, c3, c4, c5], _ =>
  match xs, hxl with
  | [y0, y1], _ =>
   have h0 : DataW.trod enc Tryz.prog w base spare held n' 24 [c0, c1, c2] = some y0 := by have := hf 0 (by omega); simpa [cells1.2.2.2] using this
   have h1 : DataW.trod enc Tryz.prog w base spare held n' 24 [c3, c4, c5] = some y1 := by have := hf 1 (by omega); simpa [cells1.2.2.2] using this
   obtain ⟨v0, e0⟩ := val_of_trod h0
   obtain ⟨v1, e1⟩ := val_of_trod h1
   exact ⟨(v0, v1), by show [c0, c1, c2] ++ [c3, c4, c5] = _; rw [e0, e1]; rfl⟩
instance : Inhabited (V × V) := ⟨(V.zero, V.zero)⟩
theorem open_pairs {fuel : Nat} {v : Value} {x : DataW H × List MemPlace} (h : DataW.trod enc Tryz.prog w base spare held fuel 71 [v] = some x) : ∃ l : List (V × V), SeesR pairC 6 w v l := by
 rcases Deep.open_slice Tryz.underlying71 h with ⟨h0, _⟩ | ⟨a, len, cap, m, n, D, Pl, hcs, hb, hl, hm, hmm, hx, hi⟩
 ·
  simp only [List.cons.injEq, and_true] at h0
  subst h0
  exact ⟨[], ⟨none, 0, rfl, by simp, by simp, .inl rfl⟩⟩
 ·
  simp only [List.cons.injEq, and_true] at hcs
  subst hcs
  have hlm : len ≤ m := by rw [hmm]; split <;> omega
  rw [cellsP] at hi
  obtain ⟨f, hf⟩ : ∃ f : Nat → V × V, ∀ i, i < len → ∀ j, j < 6 → w.cell? (a.add (i * 6 + j)) = (pairC (f i))[j]? :=
   Deep.choose_lt (α := V × V) (p := fun i v => ∀ j, j < 6 → w.cell? (a.add (i * 6 + j)) = (pairC v)[j]?) (fun i hil => by
    obtain ⟨cs, h1, h2⟩ := hi i (by omega)
    obtain ⟨v, rfl⟩ := pair_of_trod h2
    obtain ⟨_, _, h3⟩ := World.cells?_some h1
    exact ⟨v, fun j hj => by rw [← Deep.add_add]; exact h3 j hj⟩)
  have hlen : ((List.range len).map f).length = len := by simp
  obtain ⟨g, o, spot⟩ := a
  refine ⟨(List.range len).map f, ⟨some ⟨g, o, spot⟩, cap, by rw [hlen], by rw [hlen]; exact hl, hm, ?_⟩⟩
  rcases Nat.eq_zero_or_pos len with h0 | h0
  ·
   left; subst h0; rfl
  ·
   right
   have hs : spot = none := by
    have := hf 0 h0 0 (by omega)
    have h9 : w.cell? (Addr.add ⟨g, o, spot⟩ 0) = some (.int .i64 (f 0).1.kind) := by simpa [pairC, V.cells] using this
    simpa [Addr.add] using World.cell?_spot h9
   subst hs
   refine ⟨g, o, rfl, fun i v hv j u hu => ?_⟩
   have hil : i < len := by have := (List.getElem?_eq_some_iff.1 hv).1; rwa [hlen] at this
   have hv' : f i = v := by rw [List.getElem?_map, List.getElem?_range hil] at hv; exact Option.some.inj hv
   subst hv'
   have hadd : ∀ j, (⟨g, o, none⟩ : Addr).add j = ⟨g, o + j, none⟩ := fun j => by unfold Addr.add; split <;> simp_all
   have hj : j < 6 := by have := (List.getElem?_eq_some_iff.1 hu).1; rwa [pairC_len] at this
   have k0 := hf i hil j hj
   rw [hadd, ← Nat.add_assoc, hu] at k0
   exact k0
end
end Go.Proofs.YtijlebhoapdfnaaGreat
set_option maxRecDepth 100000
namespace Go.Proofs.YtijlebhoapdfnaaGreat
set_option linter.unusedSimpArgs false
open Go.ChangeShapes Go.WideShapes Go.ChangeAt Go.RowKit
set_option linter.unusedVariables false
/-- An object as it comes in: its kind, and the slices of its items and pairs, with what they hold. -/
structure ObjI where
 kind : Int
 iv : Value
 pv : Value
 items : List V
 pairs : List (V × V)
def ObjI.cells (p : ObjI) : List Value := [.int .u8 p.kind, p.iv, p.pv]
theorem ObjI.cells_len (p : ObjI) : p.cells.length = 3 := rfl
def ObjI.In (w : World) (p : ObjI) : Prop := (Lit.int .u8 p.kind).wf = true ∧ SeesV w p.iv p.items ∧ SeesR pairC 6 w p.pv p.pairs
/-- A row of them. -/
def SeesO (w : World) (sv : Value) (l : List ObjI) : Prop := SeesR ObjI.cells 3 w sv l ∧ ∀ p ∈ l, p.In w
theorem ObjI.In.below {w W : World} {p : ObjI} (h : p.In w) (b : Below w.heap.size w W) : p.In W := by
 refine ⟨h.1, ?_, h.2.2.keep fun p v hp => cellBelow hp b⟩
 obtain ⟨a, c, h1, h2, h3, h4⟩ := h.2.1
 refine ⟨a, c, h1, h2, h3, ?_⟩
 rcases h4 with h4 | ⟨g, o, h5, h6⟩
 ·
  exact .inl h4
 ·
  exact .inr ⟨g, o, h5, fun i v hv => by obtain ⟨c0, c1, c2⟩ := h6 i v hv; exact ⟨cellBelow c0 b, cellBelow c1 b, cellBelow c2 b⟩⟩
theorem SeesO.below {w W : World} {sv : Value} {l : List ObjI} (h : SeesO w sv l) (b : Below w.heap.size w W) : SeesO W sv l :=
 ⟨h.1.keep fun p v hp => cellBelow hp b, fun p hp => (h.2 p hp).below b⟩
section
variable {H : Type} {enc : TypeId × Value → H} {w : World} {base : Nat} {spare : Nat → Bool} {held : Bool}
theorem cellsO : Tryz.prog.cellsOf 73 = 3 ∧ Tryz.prog.cellsOf 5 = 1 ∧ Tryz.prog.cellsOf 56 = 1 ∧ Tryz.prog.cellsOf 71 = 1 := ⟨by kernel_rfl, by kernel_rfl, by kernel_rfl, by kernel_rfl⟩
theorem obj_of_trod {n : Nat} {cs : List Value} {y : DataW H × List MemPlace} (h : DataW.trod enc Tryz.prog w base spare held n 73 cs = some y) : ∃ p : ObjI, cs = p.cells ∧ p.In w := by
 obtain ⟨xs, n', _, hx, hlen, hxl, hf⟩ := DataW.trod_struct Tryz.underlying73 h
 rw [cellsO.1] at hlen
 match cs, hlen with
 | [c0, c1, c2], _ =>
  match xs, hxl with
  | [y0, y1, y2], _ =>
   have h0 : DataW.trod enc Tryz.prog w base spare held n' 5 [c0] = some y0 := by have := hf 0 _ rfl; simpa [cellsO.2.1] using this
   have h1 : DataW.trod enc Tryz.prog w base spare held n' 56 [c1] = some y1 := by have := hf 1 _ rfl; simpa [cellsO.2.2.1, cellsO.2.1] using this
   have h2 : DataW.trod enc Tryz.prog w base spare held n' 71 [c2] = some y2 := by have := hf 2 _ rfl; simpa [cellsO.2.2.2, cellsO.2.2.1, cellsO.2.1] using this
   obtain ⟨k, e0, _, hk⟩ := DataW.trod_int Tryz.underlying5 h0
   simp only [List.cons.injEq, and_true] at e0
   obtain ⟨l1, s1, _⟩ := open_vals h1
   obtain ⟨l2, s2⟩ := open_pairs h2
   exact ⟨⟨k, c1, c2, l1, l2⟩, by rw [e0]; rfl, hk, s1, s2⟩
instance : Inhabited ObjI := ⟨⟨0, .slice none 0 0, .slice none 0 0, [], []⟩⟩
theorem open_objs {fuel : Nat} {v : Value} {x : DataW H × List MemPlace} (h : DataW.trod enc Tryz.prog w base spare held fuel 22 [v] = some x) : ∃ l : List ObjI, SeesO w v l := by
 rcases Deep.open_slice Tryz.underlying22 h with ⟨h0, _⟩ | ⟨a, len, cap, m, n, D, Pl, hcs, hb, hl, hm, hmm, hx, hi⟩
 ·
  simp only [List.cons.injEq, and_true] at h0
  subst h0
  exact ⟨[], ⟨none, 0, rfl, by simp, by simp, .inl rfl⟩, by simp⟩
 ·
  simp only [List.cons.injEq, and_true] at hcs
  subst hcs
  have hlm : len ≤ m := by rw [hmm]; split <;> omega
  rw [cellsO.1] at hi
  obtain ⟨f, hf⟩ : ∃ f : Nat → ObjI, ∀ i, i < len → (∀ j, j < 3 → w.cell? (a.add (i * 3 + j)) = (f i).cells[j]?) ∧ (f i).In w :=
   Deep.choose_lt (α := ObjI) (p := fun i v => (∀ j, j < 3 → w.cell? (a.add (i * 3 + j)) = v.cells[j]?) ∧ v.In w) (fun i hil => by
    obtain ⟨cs, h1, h2⟩ := hi i (by omega)
    obtain ⟨v, rfl, hv⟩ := obj_of_trod h2
    obtain ⟨_, _, h3⟩ := World.cells?_some h1
    exact ⟨v, fun j hj => by rw [← Deep.add_add]; exact h3 j hj, hv⟩)
  have hlen : ((List.range len).map f).length = len := by simp
  obtain ⟨g, o, spot⟩ := a
  refine ⟨(List.range len).map f, ⟨some ⟨g, o, spot⟩, cap, by rw [hlen], by rw [hlen]; exact hl, hm, ?_⟩, fun p hp => ?_⟩
  ·
   rcases Nat.eq_zero_or_pos len with h0 | h0
   ·
    left; subst h0; rfl
   ·
    right
    have hs : spot = none := by
     have := (hf 0 h0).1 0 (by omega)
     have h9 : w.cell? (Addr.add ⟨g, o, spot⟩ 0) = some (.int .u8 (f 0).kind) := by simpa [ObjI.cells] using this
     simpa [Addr.add] using World.cell?_spot h9
    subst hs
    refine ⟨g, o, rfl, fun i v hv j u hu => ?_⟩
    have hil : i < len := by have := (List.getElem?_eq_some_iff.1 hv).1; rwa [hlen] at this
    have hv' : f i = v := by rw [List.getElem?_map, List.getElem?_range hil] at hv; exact Option.some.inj hv
    subst hv'
    have hadd : ∀ j, (⟨g, o, none⟩ : Addr).add j = ⟨g, o + j, none⟩ := fun j => by unfold Addr.add; split <;> simp_all
    have hj : j < 3 := by have := (List.getElem?_eq_some_iff.1 hu).1; rwa [ObjI.cells_len] at this
    have k0 := (hf i hil).1 j hj
    rw [hadd, ← Nat.add_assoc, hu] at k0
    exact k0
  ·
   obtain ⟨i, hi, rfl⟩ := List.mem_map.1 hp
   exact (hf i (List.mem_range.1 hi)).2
end
end Go.Proofs.YtijlebhoapdfnaaGreat
/- ch 16: what made makes, plain. -/
/- A heap in good order. -/
namespace Go.Proofs.YtijlebhoapdfnaaGreat
set_option linter.unusedSimpArgs false
open Go.RowKit
set_option linter.unusedVariables false
/-- An object's pairs are in order. -/
structure PairsOk (L : List (V × V)) : Prop where
 nd : (L.map (·.1)).Nodup
 key : ∀ q ∈ L, q.1.isKey = true
 len : L.length ≤ 4096
/-- A heap in good order, with a bound. -/
structure HeapM.Fit (H : HeapM) (N : Nat) : Prop where
 G : H.Good N
 K : H.Kinds
 P : ∀ p ∈ H.objs, PairsOk p.2.pairs
theorem HeapM.Fit.more {H : HeapM} {N M : Nat} (h : H.Fit N) (hM : N ≤ M) : H.Fit M := ⟨h.G.more hM, h.K, h.P⟩
theorem fit_empty : (⟨[], 0⟩ : HeapM).Fit 0 := ⟨good_empty, by simp [HeapM.Kinds], by simp⟩
theorem HeapM.Fit.set {H : HeapM} {N M : Nat} (h : H.Fit N) {v : V} {o : ObjM} (g : H.of v = some o) (o' : ObjM) (hk : o'.kind = o.kind) (hp : PairsOk o'.pairs) (G : (H.set v.n o').Good M) : (H.set v.n o').Fit M :=
 ⟨G, h.K.set g o' hk, fun p hp' => by
  obtain ⟨q, hq, e⟩ := List.mem_map.1 hp'
  by_cases hn : q.1 = v.n
  ·
   rw [if_pos hn] at e; subst e; exact hp
  ·
   rw [if_neg hn] at e; subst e; exact h.P q hq⟩
theorem HeapM.Fit.add {H : HeapM} {N : Nat} (h : H.Fit N) (o : ObjM) (hk : 1 ≤ o.kind ∧ o.kind ≤ 12) (hp : o.pairs = []) : (H.add o).Fit (N + o.items.length + 2) :=
 ⟨by have := h.G.add o; simpa [ObjM.vals, hp] using this, fun p hp' => by
  rcases List.mem_append.1 hp' with h1 | h1
  ·
   exact h.K p h1
  ·
   simp at h1; subst h1; exact hk, fun p hp' => by
  rcases List.mem_append.1 hp' with h1 | h1
  ·
   exact h.P p h1
  ·
   simp at h1; subst h1; exact ⟨by simp [hp], by simp [hp], by simp [hp]⟩⟩
theorem PairsOk.put {L : List (V × V)} (h : PairsOk L) (k x : V) (hp : putOk L k = true) : PairsOk (putL L k x) := by
 cases g : getL L k with
 | none =>
  simp only [putOk, g, Option.isSome_none, Bool.false_or, Bool.and_eq_true, decide_eq_true_eq] at hp
  refine ⟨nodup_putL h.nd k x, fun q hq => ?_, ?_⟩
  ·
   rw [putL_none x g] at hq
   rcases List.mem_append.1 hq with h1 | h1
   ·
    exact h.key q h1
   ·
    simp at h1; subst h1; exact hp.1
  ·
   rw [putL_none x g]; simp; omega
 | some y =>
  refine ⟨nodup_putL h.nd k x, fun q hq => ?_, ?_⟩
  ·
   rw [putL_some x g] at hq
   obtain ⟨p, hp', e⟩ := List.mem_map.1 hq
   by_cases hk : p.1 = k
   ·
    rw [if_pos hk] at e; subst e; show k.isKey = true; rw [← hk]; exact h.key p hp'
   ·
    rw [if_neg hk] at e; subst e; exact h.key p hp'
  ·
   rw [putL_some x g]; simpa using h.len
theorem HeapM.Fit.put {H : HeapM} {N : Nat} (h : H.Fit N) (v k x : V) : (H.put v k x).Fit (N + 1) := by
 have G := h.G.put v k x
 revert G
 unfold HeapM.put
 cases g : H.of v with
 | none => exact fun G => h.more (by omega)
 | some o =>
  simp only
  split
  ·
   rename_i hp
   exact fun G => h.set g _ rfl ((h.P _ (getL_mem (HeapM.of_some g).2)).put k x hp) G
  ·
   exact fun G => h.more (by omega)
theorem HeapM.Fit.replace {H : HeapM} {N : Nat} (h : H.Fit N) (v : V) (i j : Int) (l : List V) : (H.replace v i j l).Fit (N + l.length) := by
 have G := h.G.replace v i j l
 revert G
 unfold HeapM.replace
 cases g : H.of v with
 | none => exact fun G => h.more (by omega)
 | some o =>
  simp only
  split
  ·
   exact fun G => h.set g _ rfl (h.P _ (getL_mem (HeapM.of_some g).2)) G
  ·
   exact fun G => h.more (by omega)
theorem news_block {w : World} {B : Nat} {cs : Array Value} {t : TypeId} {fr : Nat × Nat} (hb : w.heap[B]? = some (.cells cs t fr)) : ∀ (j : Nat) (u : Value), cs.toList[j]? = some u → w.cell? ((⟨B, 0, none⟩ : Addr).add j) = some u := fun j u hu => by
 have hadd : (⟨B, 0, none⟩ : Addr).add j = ⟨B, j, none⟩ := by unfold Addr.add; split <;> simp_all
 rw [hadd, cell_of_row w B j cs t fr hb]
 simpa using hu
end Go.Proofs.YtijlebhoapdfnaaGreat
namespace Go.Proofs.YtijlebhoapdfnaaGreat
set_option linter.unusedSimpArgs false
open Go.RowKit
set_option linter.unusedVariables false
def kindO (p : ObjI) : Int := 1 + p.kind.tmod 12
theorem kindO_ok (p : ObjI) : okI (kindO p) := okI_of (by unfold kindO; have a := Int.tmod_lt_of_pos p.kind (show (0 : Int) < 12 by decide); have b := Int.lt_tmod_of_pos p.kind (show (0 : Int) < 12 by decide); omega)
def nmO (p : ObjI) : ObjM := ⟨kindO p, ⟨#[110, 109]⟩, 0, [], [], kindO_ok p, by decide, by decide⟩
def numV (i : Nat) : V := ⟨4, ((i % 16 : Nat) : Int) + 1, ⟨#[]⟩, by decide, okI_of (by omega), by decide⟩
def putsM (H : HeapM) (v : V) (ps : List (V × V)) : HeapM := ps.foldl (fun H p => H.put v (plainV p.1) (plainV p.2)) H
def madeA (l : List ObjI) : HeapM := l.foldl (fun H p => H.add (nmO p)) ⟨[], 0⟩
def itemsP (p : ObjI) : List V := (p.items.take 6).map plainV
def fillM (H : HeapM) (v : V) (p : ObjI) : HeapM := putsM (H.replace v 0 0 (itemsP p)) v (p.pairs.take 6)
def madeB (l : List ObjI) : Nat → HeapM
 | 0 => madeA l
 | k + 1 => match l[k]? with | some p => fillM (madeB l k) (numV k) p | none => madeB l k
/-- The objects of made. -/
def madeO (l : List ObjI) : HeapM := madeB (l.take 8) (l.take 8).length
theorem kindO_in {p : ObjI} {w : World} (h : p.In w) : 1 ≤ kindO p ∧ kindO p ≤ 12 := by
 have hb : 0 ≤ p.kind ∧ p.kind ≤ 255 := by
  have := h.1
  simp [Lit.wf, IntKind.min, IntKind.max, IntKind.bits, IntKind.signed] at this
  omega
 have a := Int.tmod_nonneg (12 : Int) hb.1
 have b := Int.tmod_lt_of_pos p.kind (show (0 : Int) < 12 by decide)
 unfold kindO
 omega
theorem itemsP_len (p : ObjI) : (itemsP p).length ≤ 6 := by unfold itemsP; rw [List.length_map, List.length_take]; omega
theorem madeA_next {l : List ObjI} {k : Nat} {p : ObjI} (h : l[k]? = some p) : madeA (l.take (k + 1)) = (madeA (l.take k)).add (nmO p) := by
 unfold madeA
 rw [List.take_add_one, h, List.foldl_append]; rfl
theorem puts_next {H : HeapM} {v : V} {l : List (V × V)} {k : Nat} {p : V × V} (h : l[k]? = some p) : putsM H v (l.take (k + 1)) = (putsM H v (l.take k)).put v (plainV p.1) (plainV p.2) := by
 unfold putsM
 rw [List.take_add_one, h, List.foldl_append]; rfl
theorem madeB_next {l : List ObjI} {k : Nat} {p : ObjI} (h : l[k]? = some p) : madeB l (k + 1) = fillM (madeB l k) (numV k) p := by
 rw [madeB]; simp only [h]
theorem madeA_fit {w : World} : ∀ (l : List ObjI) {H : HeapM} {N : Nat}, H.Fit N → (∀ p ∈ l, p.In w) → (l.foldl (fun H p => H.add (nmO p)) H).Fit (N + 2 * l.length)
 | [], H, N, F, _ => by simpa using F
 | p :: l, H, N, F, h => by
  have F1 := madeA_fit l (F.add (nmO p) (kindO_in (h p (List.mem_cons_self ..))) rfl) (fun q hq => h q (List.mem_cons_of_mem _ hq))
  refine F1.more ?_
  have e : (nmO p).items.length = 0 := rfl
  rw [e, List.length_cons]; omega
theorem puts_fit {v : V} : ∀ (l : List (V × V)) {H : HeapM} {N : Nat}, H.Fit N → (putsM H v l).Fit (N + l.length)
 | [], H, N, F => by simpa [putsM] using F
 | p :: l, H, N, F => (puts_fit l (F.put v (plainV p.1) (plainV p.2))).more (by rw [List.length_cons]; omega)
theorem fill_fit {H : HeapM} {N : Nat} (F : H.Fit N) (v : V) (p : ObjI) : (fillM H v p).Fit (N + 12) :=
 (puts_fit _ (F.replace v 0 0 (itemsP p))).more (by have := itemsP_len p; rw [List.length_take]; omega)
theorem madeB_fit {w : World} {l : List ObjI} (hl : l.length ≤ 8) (h : ∀ p ∈ l, p.In w) : ∀ k, (madeB l k).Fit (16 + 12 * k)
 | 0 => (madeA_fit l fit_empty h).more (by omega)
 | k + 1 => by
  rw [madeB]
  split
  ·
   exact (fill_fit (madeB_fit hl h k) _ _).more (by omega)
  ·
   exact (madeB_fit hl h k).more (by omega)
theorem madeB_fit' {w : World} {l : List ObjI} (hl : l.length ≤ 8) (h : ∀ p ∈ l, p.In w) {k : Nat} (hk : k ≤ 8) : (madeB l k).Fit 200 := (madeB_fit hl h k).more (by omega)
theorem madeO_fit {w : World} {l : List ObjI} (h : ∀ p ∈ l, p.In w) : (madeO l).Fit 200 :=
 madeB_fit' (by rw [List.length_take]; omega) (fun p hp => h p (List.mem_of_mem_take hp)) (by rw [List.length_take]; omega)
end Go.Proofs.YtijlebhoapdfnaaGreat
/- The reference's dict: Put; its heap: Put. -/
set_option maxRecDepth 100000
set_option maxHeartbeats 3200000
namespace Go.Proofs.YtijlebhoapdfnaaGreat
set_option linter.unusedSimpArgs false
open Go.RowKit
set_option linter.unusedVariables false
section
variable {w W : World} {Rs : List Res}
/-- A cell of a block is written. -/
theorem Sep.putPart (S : Sep w Rs W) {α : Type} {e : TypeId} {m : Nat} {f : α → List Value} {g c : Nat} {l : List α} (i : Nat) (hi : Rs[i]? = some (rowR e m f (.slice (some ⟨g, 0, none⟩) l.length c) l)) (hm : ∀ a, (f a).length = m) {k o : Nat} {a a' : α} {vs : List Value} (hk : l[k]? = some a)
  (hfa : f a' = (f a).take o ++ vs ++ (f a).drop (o + vs.length)) (ho : o + vs.length ≤ m) : Sep w (Rs.set i (rowR e m f (.slice (some ⟨g, 0, none⟩) l.length c) (l.set k a'))) (W.setCells g (k * m + o) vs) :=
 S.turn i hi fun F hF hn _ => ⟨F, ⟨hF.1.putPart hm hk hfa ho, hF.2⟩, hn, Grow.refl _ _, by rw [hF.2]; exact Outside.setCells (.inl (by simp [Value.ownBlock])) _ _ (Outside.refl _ _)⟩
end
theorem rkey_ok (w : World) (v : V) : Calls Tryz.prog 95 #[v.val] w fun e w' => e = .returned (.bool v.isKey) ∧ Below w.heap.size w w' := by
 obtain ⟨k, n, s, hk, hn, hs⟩ := v
 simp only [V.val]
 go_enter Tryz.func95, Tryz.ntmps95
 go_wp2
 all_goals go_ret
 all_goals (refine ⟨ret_b ?_, (Below.refl _ _).alloc (Nat.le_refl _) _⟩)
 all_goals try (simp_all [V.isKey]; done)
 all_goals
  have e1 : (n == 0) = decide (n = 0) := by rw [Bool.eq_iff_iff]; simp
  simp_all [V.isKey]
theorem info_rpair : (Tryz.prog.info? 180).map (fun i => (i.zero, i.size, i.bytes)) = some (some (.agg #[.int .i64 0, .int .i64 0, .string ⟨#[]⟩, .int .i64 0, .int .i64 0, .string ⟨#[]⟩]), 6, 64) := by kernel_rfl
def putM (L : List (V × V)) (k x : V) : List (V × V) := if putOk L k then putL L k x else L
section
variable {w W : World} {Rs : List Res}
theorem rdict_put (S : Sep w Rs W) (i j : Nat) {b : Nat} {n : Int} {o : ObjM} {iv dv : Value} (hij : i ≠ j) (hi : Rs[i]? = some (boxR b (robj n o iv dv))) (hj : Rs[j]? = some (pairsR dv o.pairs)) (hP : PairsOk o.pairs) (k x : V) :
  Calls Tryz.prog 132 #[.pointer (some ⟨b, 5, none⟩), k.val, x.val] W fun e W' => e = .returned (.bool (putOk o.pairs k)) ∧ ∃ dv', Sep w ((Rs.set i (boxR b (robj n o iv dv'))).set j (pairsR dv' (putM o.pairs k x))) W' := by
 have hb := S.box i hi
 have hrow := S.row j hj
 have c0 := cellAt hb 5 (v := dv) rfl
 have hblt := blockLt hb
 have CA := Lib.hid (fun W1 (hb1 : Below W.heap.size W W1) => rdict_at W1 b 5 k dv o.pairs (cellBelow c0 hb1) (hrow.of_block fun g hg => hb1.block g (hrow.lt g hg)))
 have HS := Lib.hid S
 have same : Hid (∀ W1, Below W.heap.size W W1 → Sep w ((Rs.set i (boxR b (robj n o iv dv))).set j (pairsR dv o.pairs)) W1) := Lib.hid fun W1 hb1 => by
  have h2 : (Rs.set i (boxR b (robj n o iv dv))).set j (pairsR dv o.pairs) = Rs := by
   rw [Sep.setSame hi, Sep.setSame hj]
  rw [h2]; exact HS.out.later hb1
 obtain ⟨da, dc, rfl⟩ := hrow.form
 have S1 := Lib.hid ((S.alloc (valObj k)).alloc (valObj x))
 rw [World.size_alloc] at S1
 have KB : Hid (∀ W1, Below W.heap.size W W1 → Below ((W.alloc (valObj k)).alloc (valObj x)).heap.size ((W.alloc (valObj k)).alloc (valObj x)) W1 → (W1.cell? ⟨W.heap.size, 0, none⟩ = some (.int .i64 k.kind) ∧ W1.cell? ⟨W.heap.size, 1, none⟩ = some (.int .i64 k.n) ∧ W1.cell? ⟨W.heap.size, 2, none⟩ = some (.string k.s)) ∧ (W1.cell? ⟨W.heap.size + 1, 0, none⟩ = some (.int .i64 x.kind) ∧ W1.cell? ⟨W.heap.size + 1, 1, none⟩ = some (.int .i64 x.n) ∧ W1.cell? ⟨W.heap.size + 1, 2, none⟩ = some (.string x.s))) := Lib.hid fun W1 _ hb1 => by
  have T := S1.out.later hb1
  obtain ⟨x0, x1, x2, -⟩ := valBlkO (T.box 0 rfl)
  obtain ⟨y0, y1, y2, -⟩ := valBlkO (T.box 1 rfl)
  exact ⟨⟨y0, y1, y2⟩, x0, x1, x2⟩
 have hlen := hP.len
 have hl2 : (o.pairs.length : Int) ≤ 4096 := by omega
 rcases keyAt_cases o.pairs k with ⟨hk, hg⟩ | ⟨m, x0, hk, hm, hg⟩
 ·
  rw [hk] at CA
  cases hput : putOk o.pairs k with
  | false =>
   have hML : putM o.pairs k x = o.pairs := by rw [putM, hput]; rfl
   rw [hML]
   have hc : k.isKey = false ∨ (k.isKey = true ∧ (4096 : Int) ≤ o.pairs.length) := by
    simp only [putOk, hg, Option.isSome_none, Bool.false_or, Bool.and_eq_false_iff, decide_eq_false_iff_not] at hput
    cases hkk : k.isKey with
    | false => exact .inl rfl
    | true => rcases hput with h | h; rw [hkk] at h; cases h; exact .inr ⟨rfl, by omega⟩
   have CK := Lib.hid (fun W1 => rkey_ok W1 k)
   have HC := Lib.hid (fun W1 (hb1 : Below W.heap.size W W1) => cellBelow c0 hb1)
   clear hk hg hput hML c0 hrow hb hi hj S hlen
   simp only [V.val, valObj] at CA CK KB ⊢
   rcases hc with hkk | ⟨hkk, hl4⟩
   ·
    rw [hkk] at CK
    clear hkk
    go_enter Tryz.func132, Tryz.ntmps132
    go_wp2_with fail
    refine (CA.out _ belowA).mono ?_
    rintro e w1 ⟨rfl, hb1⟩
    have hB1 : Below W.heap.size W w1 := by exact Below.next belowA hb1 (by (try simp only [World.size_alloc, size_drew, size_drewN, size_setCell]); omega)
    obtain ⟨⟨y0, y1, y2⟩, x0, x1, x2⟩ := KB.out w1 hB1 hb1
    clear hb1
    go_wp2_with fail
    refine (CK.out w1).mono ?_
    rintro e w2 ⟨rfl, hb2⟩
    have HB := Lib.hid (Below.next hB1 hb2 hB1.size)
    clear hB1 hb2 y0 y1 y2 x0 x1 x2
    go_wp2
    go_ret
    exact ⟨rfl, _, same.out _ HB.out⟩
   ·
    rw [hkk] at CK
    clear hkk
    go_enter Tryz.func132, Tryz.ntmps132
    go_wp2_with fail
    refine (CA.out _ belowA).mono ?_
    rintro e w1 ⟨rfl, hb1⟩
    have hB1 : Below W.heap.size W w1 := by exact Below.next belowA hb1 (by (try simp only [World.size_alloc, size_drew, size_drewN, size_setCell]); omega)
    obtain ⟨⟨y0, y1, y2⟩, x0, x1, x2⟩ := KB.out w1 hB1 hb1
    clear hb1
    go_wp2_with fail
    refine (CK.out w1).mono ?_
    rintro e w2 ⟨rfl, hb2⟩
    have HB := Lib.hid (Below.next hB1 hb2 hB1.size)
    have d0 := HC.out _ HB.out
    clear hB1 hb2 y0 y1 y2 x0 x1 x2
    go_wp2
    go_ret
    exact ⟨rfl, _, same.out _ HB.out⟩
  | true =>
   have hML : putM o.pairs k x = o.pairs ++ [(k, x)] := by rw [putM, hput, if_pos rfl, putL_none x hg]
   rw [hML]
   obtain ⟨hkk, hl4⟩ : k.isKey = true ∧ o.pairs.length < 4096 := by simpa [putOk, hg] using hput
   have hl5 : (o.pairs.length : Int) < 4096 := by omega
   have CK := Lib.hid (fun W1 => rkey_ok W1 k)
   rw [hkk] at CK
   have HC := Lib.hid (fun W1 (hb1 : Below W.heap.size W W1) => cellBelow c0 hb1)
   have HI := Lib.hid (And.intro hi (And.intro hj (And.intro hij hl4)))
   clear hk hg hput hML c0 hrow hb hi hj S hlen hkk hl4 same
   simp only [V.val] at CA CK ⊢
   simp only [valObj] at KB
   go_enter Tryz.func132, Tryz.ntmps132
   go_wp2_with fail
   refine (CA.out _ belowA).mono ?_
   rintro e w1 ⟨rfl, hb1⟩
   have hB1 : Below W.heap.size W w1 := by exact Below.next belowA hb1 (by (try simp only [World.size_alloc, size_drew, size_drewN, size_setCell]); omega)
   obtain ⟨⟨y0, y1, y2⟩, x0, x1, x2⟩ := KB.out w1 hB1 hb1
   have S2 := Lib.hid (S1.out.later hb1)
   clear hb1
   go_wp2_with fail
   refine (CK.out w1).mono ?_
   rintro e w2 ⟨rfl, hb2⟩
   have HB := Lib.hid (Below.next hB1 hb2 hB1.size)
   have S3 := S2.out.later hb2
   have d0 := HC.out _ HB.out
   obtain ⟨y0', y1', y2', -⟩ := valBlkO (S3.box 1 rfl)
   obtain ⟨x0', x1', x2', -⟩ := valBlkO (S3.box 0 rfl)
   clear hB1 hb2 y0 y1 y2 x0 x1 x2 S2
   have hbw : b < w2.heap.size := World.block_lt_of_cell? _ _ d0
   have hkw : W.heap.size < w2.heap.size := World.block_lt_of_cell? _ _ y0'
   have hxw : W.heap.size + 1 < w2.heap.size := World.block_lt_of_cell? _ _ x0'
   have S4 := (S3.alloc (.cells #[.int .i64 k.kind, .int .i64 k.n, .string k.s, .int .i64 x.kind, .int .i64 x.n, .string x.s] 180)).drew
   obtain ⟨i0, hi0, iz0, iz1, iz2⟩ := info_parts info_rpair
   obtain ⟨v', w3, hap, hown, hgr, hnil, hat⟩ := run_append_own_at (P := Tryz.prog) (w := (w2.alloc (.cells #[.int .i64 k.kind, .int .i64 k.n, .string k.s, .int .i64 x.kind, .int .i64 x.n, .string x.s] 180)).drew) 0 97 97 180 i0 _ 6 64 Tryz.underlying97 hi0 iz0 iz1 iz2 rfl (by decide) (.slice da o.pairs.length dc) o.pairs.length (o.pairs.flatMap pairCells) (S4.row (j + 3) HI.out.2.1) ⟨w2.heap.size, 0, none⟩ 1 1 (pairCells (k, x)) rfl
    (news_block (S4.box 0 rfl)) (by intro u hu; simp [pairCells, V.cells] at hu; rcases hu with rfl | rfl | rfl | rfl | rfl | rfl <;> rfl) (by have := HI.out.2.2.2; unfold maxLen; omega) (by have := HI.out.2.2.2; omega) (Nat.zero_le _)
   obtain ⟨va, vc, rfl⟩ := ownsRow_form hown
   have hs' : slIs w3 180 6 pairCells (.slice va (o.pairs.length + 1) vc) (o.pairs ++ [(k, x)]) := by
    refine ⟨flatMap_length pairCells 6 pairCells_len _, ?_⟩
    have := hown.2
    rw [List.flatMap_append, List.length_append]
    exact this
   have S5 := S4.grown (j + 3) HI.out.2.1 hs' hgr hat
   have hb3 : w3.heap[b]? = some (robj n o iv (.slice da o.pairs.length dc)) := S5.box (i + 3) (by
    rw [List.getElem?_set_ne (by have := HI.out.2.2.1; omega)]; exact HI.out.1)
   have u5 := cellAt hb3 5 (v := .slice da o.pairs.length dc) rfl
   have z5 := frozenAt hb3 5
   have hw3 : b < w3.heap.size := blockLt hb3
   have S6 := S5.setBox (cs := #[.int .i64 n, .int .i64 o.kind, .string o.name, .int .i64 o.num, iv, .slice da o.pairs.length dc]) (t := 101) (i + 3) (by
    rw [List.getElem?_set_ne (by have := HI.out.2.2.1; omega)]; exact HI.out.1) 5 (.slice va (o.pairs.length + 1) vc)
   have FIN : Hid (Sep w ((Rs.set i (boxR b (robj n o iv (.slice va (o.pairs.length + 1) vc)))).set j (pairsR (.slice va (o.pairs.length + 1) vc) (o.pairs ++ [(k, x)]))) (w3.setCell ⟨b, 5, none⟩ (.slice va (o.pairs.length + 1) vc))) := Lib.hid (by
    have h7 : Sep w ((Rs.set j (pairsR (.slice va (o.pairs.length + 1) vc) (o.pairs ++ [(k, x)]))).set i (boxR b (robj n o iv (.slice va (o.pairs.length + 1) vc)))) (w3.setCell ⟨b, 5, none⟩ (.slice va (o.pairs.length + 1) vc)) := S6.tail.tail.tail
    rwa [List.set_comm _ _ (by have := HI.out.2.2.1; omega)] at h7)
   clear S3 S4 S5 S6 hown hgr hnil hat hs' hi0 iz0 iz1 iz2 hb3
   go_wp2
   go_region_law (refine step_append_run (by rfl) _ _ _ (by rfl) (by rfl) (by rfl) hap ?_)
   all_goals (go_wp2; go_ret; exact ⟨rfl, _, FIN.out⟩)
 ·
  have hkey : k.isKey = true := hP.key (k, x0) (List.mem_of_getElem? hm)
  have hput : putOk o.pairs k = true := by simp [putOk, hg]
  have hML : putM o.pairs k x = o.pairs.set m (k, x) := by
   rw [putM, hput, if_pos rfl, putL_some x hg, set_eq_map hP.nd hm]
  rw [hput, hML]
  obtain ⟨g, rfl⟩ : ∃ g, da = some ⟨g, 0, none⟩ := by
   rcases hrow.shape with ⟨h1, h2⟩ | ⟨g, cap, h1, _⟩
   ·
    rw [h2] at hm; simp at hm
   ·
    exact ⟨g, (Value.slice.inj h1).1⟩
  have hmlt := (List.getElem?_eq_some_iff.1 hm).1
  have e3 := slIs.cell (f := pairCells) (m := 6) pairCells_len hrow (g := g) rfl hm (j := 3) (u := .int .i64 x0.kind) rfl
  have e4 := slIs.cell (f := pairCells) (m := 6) pairCells_len hrow (g := g) rfl hm (j := 4) (u := .int .i64 x0.n) rfl
  have e5 := slIs.cell (f := pairCells) (m := 6) pairCells_len hrow (g := g) rfl hm (j := 5) (u := .string x0.s) rfl
  have hfr := fun j => hrow.frozen (g := g) rfl j
  have HC := Lib.hid (fun W1 (hb1 : Below W.heap.size W W1) => And.intro (cellBelow c0 hb1) (And.intro (cellBelow e3 hb1) (And.intro (cellBelow e4 hb1) (And.intro (cellBelow e5 hb1) (fun j => (frozenBelow (p := ⟨g, j, none⟩) (show g < W.heap.size from World.block_lt_of_cell? W _ e3) hb1).trans (hfr j))))))
  have hil : (m : Int) < o.pairs.length := by omega
  have CK := Lib.hid (fun W1 => rkey_ok W1 k)
  rw [hkey] at CK
  rw [hk] at CA
  have HI := Lib.hid (And.intro hi (And.intro hj (And.intro hij hm)))
  clear hk hg hm hput hML hmlt hlen e3 e4 e5 hfr hkey c0 hrow hb hi hj S same
  simp only [V.val] at CA CK ⊢
  simp only [valObj] at KB
  go_enter Tryz.func132, Tryz.ntmps132
  go_wp2_with fail
  refine (CA.out _ belowA).mono ?_
  rintro e w1 ⟨rfl, hb1⟩
  have hB1 : Below W.heap.size W w1 := by exact Below.next belowA hb1 (by (try simp only [World.size_alloc, size_drew, size_drewN, size_setCell]); omega)
  obtain ⟨⟨y0, y1, y2⟩, x0', x1, x2⟩ := KB.out w1 hB1 hb1
  have S2 := Lib.hid (S1.out.later hb1)
  clear hb1
  go_wp2_with fail
  refine (CK.out w1).mono ?_
  rintro e w2 ⟨rfl, hb2⟩
  have HB := Lib.hid (Below.next hB1 hb2 hB1.size)
  have S3 := S2.out.later hb2
  obtain ⟨d0, d3, d4, d5, df⟩ := HC.out _ HB.out
  obtain ⟨q0, q1, q2, -⟩ := valBlkO (S3.box 0 rfl)
  have FIN : Hid (Sep w ((Rs.set i (boxR b (robj n o iv (.slice (some ⟨g, 0, none⟩) o.pairs.length dc)))).set j (pairsR (.slice (some ⟨g, 0, none⟩) o.pairs.length dc) (o.pairs.set m (k, x)))) (w2.setCells g (m * 6 + 3) [.int .i64 x.kind, .int .i64 x.n, .string x.s])) := Lib.hid (by
   have h1 := S3.putPart (j + 2) HI.out.2.1 pairCells_len HI.out.2.2.2 (o := 3) (a' := (k, x)) (vs := [.int .i64 x.kind, .int .i64 x.n, .string x.s]) rfl (by simp)
   rw [Sep.setSame HI.out.1]
   exact h1.tail.tail)
  have hg2 : g < w2.heap.size := World.block_lt_of_cell? _ _ d3
  clear hB1 hb2 y0 y1 y2 x0' x1 x2 S2 S3 HC
  go_wp2
  go_region
  go_wp2
  go_ret
  exact ⟨rfl, _, FIN.out.drew⟩
end
end Go.Proofs.YtijlebhoapdfnaaGreat
/- The reference's heap: Put, Replace. -/
namespace Go.Proofs.YtijlebhoapdfnaaGreat
set_option linter.unusedSimpArgs false
open Go.RowKit
set_option linter.unusedVariables false
theorem HeapM.set_same {H : HeapM} (hn : (H.objs.map (·.1)).Nodup) {v : V} {o : ObjM} (g : H.of v = some o) : H.set v.n o = H := by
 have : (H.objs.map fun p => if p.1 = v.n then (v.n, o) else p) = H.objs := by
  conv => rhs; rw [← List.map_id H.objs]
  refine List.map_congr_left fun p hp => ?_
  by_cases e : p.1 = v.n
  ·
   rw [if_pos e]
   have := getL_of_mem hn (k := p.1) (x := p.2) hp
   rw [e, (HeapM.of_some g).2] at this
   have h2 := Option.some.inj this
   rw [h2, ← e]; rfl
  ·
   rw [if_neg e]; rfl
 unfold HeapM.set
 rw [this]
theorem HeapM.put_set {H : HeapM} (hn : (H.objs.map (·.1)).Nodup) {v : V} {o : ObjM} (g : H.of v = some o) (k x : V) : H.put v k x = H.set v.n { o with pairs := putM o.pairs k x } := by
 unfold HeapM.put putM
 rw [g]
 simp only
 split
 ·
  rfl
 ·
  exact (HeapM.set_same hn g).symm
section
variable {w W : World} {Rs : List Res} {r : Nat} {H : HeapM}
theorem ref_put (S : Sep w (refR r H :: Rs) W) (hn : (H.objs.map (·.1)).Nodup) (hP : ∀ p ∈ H.objs, PairsOk p.2.pairs) (v k x : V) :
  Calls Tryz.prog 44 #[.pointer (some ⟨r, 0, none⟩), v.val, k.val, x.val] W fun e W' => e = .returned (.bool (H.canPut v k)) ∧ Sep w (refR r (H.put v k x) :: Rs) W' := by
 rcases S.refOf hn v with ⟨h0, CO⟩ | ⟨o, b, iv, dv, K, ho, CO, -, SF, back⟩
 ·
  have e1 : H.canPut v k = false := by simp [HeapM.canPut, h0]
  have e2 : H.put v k x = H := by simp [HeapM.put, h0]
  rw [e1, e2]
  have HS := Lib.hid S
  have HCO := Lib.hid CO
  clear h0 CO S e1 e2
  simp only [V.val] at HCO ⊢
  go_enter Tryz.func44, Tryz.ntmps44
  go_wp2_with fail
  refine (HCO.out _ belowA).mono ?_
  rintro e w1 ⟨rfl, hb1⟩
  have HB := Lib.hid (show Below W.heap.size W w1 by exact Below.next belowA hb1 (by (try simp only [World.size_alloc, size_drew, size_drewN, size_setCell]); omega))
  clear hb1
  go_wp2
  go_quiet (fail)
  go_wp2
  go_ret
  exact ⟨rfl, HS.out.later (Below.drewN HB.out _)⟩
 ·
  have e1 : H.canPut v k = putOk o.pairs k := by simp [HeapM.canPut, ho]
  have hPo := hP _ (getL_mem (HeapM.of_some ho).2)
  rw [e1, HeapM.put_set hn ho]
  have S3 := Lib.hid (((SF.alloc (valObj v)).alloc (valObj k)).alloc (valObj x))
  simp only [World.size_alloc] at S3
  have RP := Lib.hid (fun W1 (T : Sep w (boxR (W.heap.size + 2) (valObj x) :: boxR (W.heap.size + 1) (valObj k) :: boxR W.heap.size (valObj v) :: boxR b (robj v.n o iv dv) :: valsR iv o.items :: pairsR dv o.pairs :: K) W1) => rdict_put T 3 5 (by decide) rfl rfl hPo k x)
  have KB : Hid (∀ W1 (R' : List Res), Sep w (boxR (W.heap.size + 2) (valObj x) :: boxR (W.heap.size + 1) (valObj k) :: R') W1 → (W1.cell? ⟨W.heap.size + 1, 0, none⟩ = some (.int .i64 k.kind) ∧ W1.cell? ⟨W.heap.size + 1, 1, none⟩ = some (.int .i64 k.n) ∧ W1.cell? ⟨W.heap.size + 1, 2, none⟩ = some (.string k.s)) ∧ W1.cell? ⟨W.heap.size + 2, 0, none⟩ = some (.int .i64 x.kind) ∧ W1.cell? ⟨W.heap.size + 2, 1, none⟩ = some (.int .i64 x.n) ∧ W1.cell? ⟨W.heap.size + 2, 2, none⟩ = some (.string x.s)) := Lib.hid fun W1 R' T => by
   obtain ⟨x0, x1, x2, -⟩ := valBlkO (T.box 0 rfl)
   obtain ⟨y0, y1, y2, -⟩ := valBlkO (T.box 1 rfl)
   exact ⟨⟨y0, y1, y2⟩, x0, x1, x2⟩
  have BK := Lib.hid back
  have HCO := Lib.hid CO
  clear hPo ho CO S e1 SF back
  simp only [V.val] at HCO RP ⊢
  go_enter Tryz.func44, Tryz.ntmps44
  go_wp2_with fail
  refine (HCO.out _ belowA).mono ?_
  rintro e w1 ⟨rfl, hb1⟩
  have T0 := S3.out.later hb1
  clear hb1 S3
  go_wp2
  go_region_held3 (fun W1 => (W1.cell? ⟨W.heap.size + 1, 0, none⟩ = some (.int .i64 k.kind) ∧ W1.cell? ⟨W.heap.size + 1, 1, none⟩ = some (.int .i64 k.n) ∧ W1.cell? ⟨W.heap.size + 1, 2, none⟩ = some (.string k.s)) ∧ W1.cell? ⟨W.heap.size + 2, 0, none⟩ = some (.int .i64 x.kind) ∧ W1.cell? ⟨W.heap.size + 2, 1, none⟩ = some (.int .i64 x.n) ∧ W1.cell? ⟨W.heap.size + 2, 2, none⟩ = some (.string x.s))
   (first | exact KB.out _ _ (by assumption) | exact KB.out _ _ (Sep.drew (by assumption)))
   (first | (go_at_call 132; refine (RP.out _ (by first | assumption | exact Sep.drew (by assumption))).mono ?_; rintro e w2 ⟨rfl, dv', T1⟩))
  all_goals
   go_wp2
   go_ret
   exact ⟨rfl, BK.out _ { o with pairs := putM o.pairs k x } iv dv' (show Sep w (boxR b (robj v.n o iv dv') :: valsR iv o.items :: pairsR dv' (putM o.pairs k x) :: K) _ from Sep.tail (Sep.tail (Sep.tail T1)))⟩
theorem Sep.madeVals (S : Sep w Rs W) : Sep w (valsR (.slice (some ⟨W.heap.size, 0, none⟩) 0 0) [] :: Rs) (W.alloc (.cells #[] 24)) :=
 S.addRow (belowAlloc W _) (World.ownsRow_made W #[] 0 (Nat.zero_le _) (Nat.zero_le _) rfl) (by simp [Value.ownBlock])
theorem ref_replace (S : Sep w (refR r H :: Rs) W) {N : Nat} (G : H.Good N) (v : V) (i j : Int) (sv : Value) (l : List V) (hs : ∀ W1, Sep w Rs W1 → SeesV W1 sv l) (hN : N + l.length ≤ 4000000) :
  Calls Tryz.prog 42 #[.pointer (some ⟨r, 0, none⟩), v.val, .int .i64 i, .int .i64 j, sv] W fun e W' => e = .returned (.bool (H.canReplace v i j)) ∧ Sep w (refR r (H.replace v i j l) :: Rs) W' := by
 rcases S.refOf G.ok.nk v with ⟨h0, CO⟩ | ⟨o, b, iv, dv, K, ho, CO, hK, SF, back⟩
 ·
  have e1 : H.canReplace v i j = false := by simp [HeapM.canReplace, h0]
  have e2 : H.replace v i j l = H := by simp [HeapM.replace, h0]
  rw [e1, e2]
  have HS := Lib.hid S
  have HCO := Lib.hid CO
  clear h0 CO S e1 e2 hs
  simp only [V.val] at HCO ⊢
  go_enter Tryz.func42, Tryz.ntmps42
  go_wp2_with fail
  refine (HCO.out _ belowA).mono ?_
  rintro e w1 ⟨rfl, hb1⟩
  have HB := Lib.hid (show Below W.heap.size W w1 by exact Below.next belowA hb1 (by (try simp only [World.size_alloc, size_drew, size_drewN, size_setCell]); omega))
  clear hb1
  go_wp2
  go_ret
  exact ⟨rfl, HS.out.later HB.out⟩
 ·
  have hit : o.items.length ≤ N := by have := G.items v; simpa [HeapM.items, ho] using this
  obtain ⟨sa, scap, rfl⟩ : ∃ a c, sv = .slice a l.length c := by obtain ⟨a, c, e, _⟩ := hs W S.tail; exact ⟨a, c, e⟩
  have S1 := Lib.hid (SF.alloc (valObj v))
  have hiv := SF.row 1 rfl
  obtain ⟨ia, ic, rfl⟩ := hiv.form
  have hcap := hiv.caps
  have hil : (o.items.length : Int) ≤ 4000000 := by omega
  have HCO := Lib.hid CO
  have c4 := cellAt (SF.box 0 rfl) 4 (v := .slice ia o.items.length ic) rfl
  have HC := Lib.hid (fun W1 (hb : Below W.heap.size W W1) => cellBelow c4 hb)
  by_cases hin : 0 ≤ i ∧ i ≤ j ∧ j ≤ o.items.length
  ·
   obtain ⟨h0, h1, h2⟩ := hin
   obtain ⟨p, rfl⟩ : ∃ p : Nat, i = p := ⟨i.toNat, by omega⟩
   obtain ⟨q, rfl⟩ : ∃ q : Nat, j = q := ⟨j.toNat, by omega⟩
   have g1 : p ≤ q := by omega
   have g2 : q ≤ o.items.length := by omega
   have e1 : H.canReplace v p q = true := by simp [HeapM.canReplace, ho]; omega
   have e2 : H.replace v p q l = H.set v.n { o with items := o.items.take p ++ l ++ o.items.drop q } := by
    unfold HeapM.replace; rw [ho]; simp only; rw [if_pos ⟨h0, h1, h2⟩]; simp
   rw [e1, e2]
   have hu : Tryz.prog.underlying 56 = some (.slice (Tryz.prog.elem 56)) := by kernel_rfl
   have hsz : ∀ W, (sizeOf (Tryz.prog.elem 56)).run Tryz.prog W = .ok 3 W := fun W => by kernel_rfl
   obtain ⟨a2, ha2, -⟩ := hiv.sees'.part (Nat.zero_le p) (Nat.le_trans g1 g2) (Nat.le_trans (Nat.le_trans g1 g2) hcap.2.1) (Nat.le_refl _)
   obtain ⟨a3, ha3, -⟩ := hiv.sees'.part g2 (Nat.le_refl _) hcap.2.1 (Nat.le_refl _)
   have s2 : ∀ W, (Instr.slice 56 (.slice ia o.items.length ic) none (some (.int .i64 p)) none).run Tryz.prog W = .ok (.slice a2 p ic) W := fun W => by
    rw [run_slice_h W _ _ _ _ hu _ _ (by omega) (by omega), hsz]
    exact congrArg (fun x => Result.ok x W) ha2
   have s3 : ∀ W, (Instr.slice 56 (.slice ia o.items.length ic) (some (.int .i64 q)) none none).run Tryz.prog W = .ok (.slice a3 (o.items.length - q) (ic - q)) W := fun W => by
    rw [run_slice_l W _ _ _ _ hu _ _ (by omega) (by omega), hsz]
    exact congrArg (fun x => Result.ok x W) ha3
   have SE2 : Hid (∀ W1, slIs W1 24 3 V.cells (.slice ia o.items.length ic) o.items → SeesV W1 (.slice a2 (o.items.take p).length ic) (o.items.take p)) := Lib.hid fun W1 h => by
    obtain ⟨a', ha', se⟩ := h.sees'.part (Nat.zero_le p) (Nat.le_trans g1 g2) (Nat.le_trans (Nat.le_trans g1 g2) hcap.2.1) (Nat.le_refl _)
    rw [ha2] at ha'
    cases ha'
    have e : (o.items.take p).length = p := by rw [List.length_take]; omega
    rw [e]; simpa using se
   have SE3 : Hid (∀ W1, slIs W1 24 3 V.cells (.slice ia o.items.length ic) o.items → SeesV W1 (.slice a3 (o.items.drop q).length (ic - q)) (o.items.drop q)) := Lib.hid fun W1 h => by
    obtain ⟨a', ha', se⟩ := h.sees'.part g2 (Nat.le_refl _) hcap.2.1 (Nat.le_refl _)
    rw [ha3] at ha'
    cases ha'
    have e : (o.items.drop q).length = o.items.length - q := by simp
    rw [e]
    rw [List.take_of_length_le (by simp)] at se
    exact se
   have et : (o.items.take p).length = p := by rw [List.length_take]; omega
   have ed : (o.items.drop q).length = o.items.length - q := by simp
   have HE := Lib.hid (And.intro et (And.intro ed (And.intro hs (And.intro hK hN))))
   have HBK := Lib.hid back
   have s2' : ∀ W, (Instr.slice 56 (.slice ia o.items.length ic) none (some (.int .i64 p)) none).run Tryz.prog W = .ok (.slice a2 (o.items.take p).length ic) W := fun W => by rw [s2, et]
   have s3' : ∀ W, (Instr.slice 56 (.slice ia o.items.length ic) (some (.int .i64 q)) none none).run Tryz.prog W = .ok (.slice a3 (o.items.drop q).length (ic - q)) W := fun W => by rw [s3, ed]
   have h1' : (p : Int) ≤ q := by omega
   have h2' : (q : Int) ≤ o.items.length := by omega
   clear hu hsz ha2 ha3 et ed hs hK hN back hiv hcap c4 CO SF S ho e1 e2 g1 g2 h0 h1 h2 s2 s3
   obtain ⟨l2, hl2⟩ : ∃ x, x = o.items.take p := ⟨_, rfl⟩
   obtain ⟨l3, hl3⟩ : ∃ x, x = o.items.drop q := ⟨_, rfl⟩
   rw [← hl2, ← hl3] at HE ⊢
   rw [← hl2] at SE2 s2'
   rw [← hl3] at SE3 s3'
   clear hl2 hl3
   simp only [V.val] at HCO ⊢
   go_enter Tryz.func42, Tryz.ntmps42
   go_wp2_with fail
   refine (HCO.out _ belowA).mono ?_
   rintro e w1 ⟨rfl, hb1⟩
   have T0 := S1.out.later hb1
   have d4 := HC.out w1 (by exact Below.next belowA hb1 (by (try simp only [World.size_alloc, size_drew, size_drewN, size_setCell]); omega))
   have T1 := T0.madeVals
   have hbw := World.block_lt_of_cell? _ _ d4
   clear hb1 S1 HC T0
   go_wp2_with (at_builtin; refine wpList_append_sep rfl _ _ rfl T1 0 rfl rfl _ _ rfl (SE2.out _ (T1.row 3 rfl)) (by have := HE.out.1; have := HE.out.2.2.2.2; simp; omega) ?_)
   intro va1 vc1 w2 T2
   clear T1 d4 hbw
   go_wp2_with (at_builtin; refine wpList_append_sep rfl _ _ rfl T2 0 rfl rfl _ _ rfl (HE.out.2.2.1 _ (T2.sub (.cons _ (.cons _ (.cons _ (.cons _ (.cons _ HE.out.2.2.2.1))))))) (by have := HE.out.1; have := HE.out.2.2.2.2; simp; omega) ?_)
   intro va2 vc2 w3 T3
   have d4 := cellAt (T3.box 2 rfl) 4 (v := .slice ia o.items.length ic) rfl
   have hbw := World.block_lt_of_cell? _ _ d4
   clear T2
   go_wp2_with (at_builtin; refine wpList_append_sep rfl _ _ rfl T3 0 rfl rfl _ _ rfl (SE3.out _ (T3.row 3 rfl)) (by have := HE.out.1; have := HE.out.2.1; have := HE.out.2.2.2.2; simp; omega) ?_)
   intro va3 vc3 w4 T4
   have d5 := cellAt (T4.box 2 rfl) 4 (v := .slice ia o.items.length ic) rfl
   have z5 := frozenAt (T4.box 2 rfl) 4
   have hbw4 := World.block_lt_of_cell? _ _ d5
   have U := T4.setBox (cs := #[.int .i64 v.n, .int .i64 o.kind, .string o.name, .int .i64 o.num, .slice ia o.items.length ic, dv]) (t := 101) 2 rfl 4 (.slice va3 (l2.length + l.length + l3.length) vc3)
   have U1 : Sep w (valsR (.slice va3 (l2.length + l.length + l3.length) vc3) (l2 ++ (l ++ l3)) :: boxR W.heap.size (valObj v) :: boxR b (robj v.n o (.slice va3 (l2.length + l.length + l3.length) vc3) dv) :: valsR (.slice ia o.items.length ic) o.items :: pairsR dv o.pairs :: K) (w4.setCell ⟨b, 4, none⟩ (.slice va3 (l2.length + l.length + l3.length) vc3)) := U
   have U2 : Sep w (valsR (.slice va3 (l2.length + l.length + l3.length) vc3) (l2 ++ (l ++ l3)) :: boxR b (robj v.n o (.slice va3 (l2.length + l.length + l3.length) vc3) dv) :: pairsR dv o.pairs :: K) (w4.setCell ⟨b, 4, none⟩ (.slice va3 (l2.length + l.length + l3.length) vc3)) := U1.sub (.cons_cons _ (.cons _ (.cons_cons _ (.cons _ (.cons_cons _ (List.Sublist.refl _))))))
   have FIN := Lib.hid (HBK.out _ { o with items := l2 ++ (l ++ l3) } (.slice va3 (l2.length + l.length + l3.length) vc3) dv U2.swap)
   clear U1 U2
   clear T3 T4 U d4 hbw
   go_wp2
   go_ret
   exact ⟨rfl, FIN.out⟩
  ·
   have e1 : H.canReplace v i j = false := by simp only [HeapM.canReplace, ho]; simpa using hin
   have e2 : H.replace v i j l = H := by unfold HeapM.replace; rw [ho]; simp only; rw [if_neg hin]
   rw [e1, e2]
   have HS := Lib.hid S
   have hc : i < 0 ∨ (0 ≤ i ∧ j < i) ∨ (0 ≤ i ∧ i ≤ j ∧ (o.items.length : Int) < j) := by omega
   clear e1 e2 hs hK back hiv c4 CO SF S ho hin S1
   simp only [V.val] at HCO ⊢
   rcases hc with h1 | ⟨h1, h2⟩ | ⟨h1, h2, h3⟩
   all_goals
    go_enter Tryz.func42, Tryz.ntmps42
    go_wp2_with fail
    refine (HCO.out _ belowA).mono ?_
    rintro e w1 ⟨rfl, hb1⟩
    have hB : Below W.heap.size W w1 := by exact Below.next belowA hb1 (by (try simp only [World.size_alloc, size_drew, size_drewN, size_setCell]); omega)
    have d4 := HC.out w1 hB
    have HB := Lib.hid hB
    clear hb1 hB
    go_wp2
    go_ret
    exact ⟨rfl, HS.out.later HB.out⟩
end
end Go.Proofs.YtijlebhoapdfnaaGreat
/- The reference's heap: Make. -/
namespace Go.Proofs.YtijlebhoapdfnaaGreat
set_option linter.unusedSimpArgs false
open Go.RowKit
set_option linter.unusedVariables false
theorem run_append_sees (W : World) (v : Value) (xs : List V) (h : slIs W 24 3 V.cells v xs) (sv : Value) (l : List V) (hsv : SeesV W sv l) (hlen : xs.length + l.length ≤ 4194304) (ty : TypeId) :
  ∃ va vc w', (Builtin.append_ #[56, 56] ty #[v, sv]).run Tryz.prog W = .ok (.slice va (xs.length + l.length) vc) w' ∧ slIs w' 24 3 V.cells (.slice va (xs.length + l.length) vc) (xs ++ l) ∧ W.grownBy w' v.ownBlock ∧ ((Value.slice va (xs.length + l.length) vc).ownBlock = v.ownBlock ∨ (Value.slice va (xs.length + l.length) vc).ownBlock = some W.heap.size) := by
 obtain ⟨i0, hi, iz0, iz1, iz2⟩ := info_parts info_val
 obtain ⟨p, cap, rfl, q1, q2, q3⟩ := hsv
 cases p with
 | none =>
  have hl : l = [] := by
   rcases q3 with h | ⟨g, o, h, _⟩
   ·
    exact h
   ·
    cases h
  subst hl
  obtain ⟨va, vc, rfl⟩ := h.form
  exact ⟨va, vc, W, run_append_nothing (P := Tryz.prog) W 56 ty 24 i0 Tryz.underlying56 hi va xs.length vc cap h.caps.2.1, by simpa using h, ⟨rfl, rfl, rfl, Nat.le_refl _, fun _ _ _ => rfl⟩, .inl rfl⟩
 | some p =>
  have hcells : ∀ j u, (l.flatMap V.cells)[j]? = some u → W.cell? (p.add j) = some u := by
   rcases q3 with h | ⟨g, o, h, hh⟩
   ·
    subst h; intro j u hu; simp at hu
   ·
    cases h; exact SeesV.cells hh
  obtain ⟨v', w', hrun, hown, hgr, -, hat⟩ := run_append_own_at (P := Tryz.prog) (w := W) 0 56 ty 24 i0 _ 3 32 Tryz.underlying56 hi iz0 iz1 iz2 rfl (by decide) v xs.length (xs.flatMap V.cells) h p l.length cap (l.flatMap V.cells) (flatMap_length V.cells 3 V.cells_len l) hcells
   (by intro u hu; obtain ⟨v, _, hv⟩ := List.mem_flatMap.1 hu; simp [V.cells] at hv; rcases hv with rfl | rfl | rfl <;> rfl) (Nat.le_trans hlen (by decide)) (by omega) (Nat.zero_le _)
  obtain ⟨va, vc, rfl⟩ := ownsRow_form hown
  refine ⟨va, vc, w', hrun, ⟨flatMap_length _ _ V.cells_len _, ?_⟩, hgr, hat⟩
  have := hown.2
  rw [List.flatMap_append, List.length_append]
  exact this
theorem info_ptr : (Tryz.prog.info? 102).map (fun i => (i.zero, i.size, i.bytes)) = some (some (.pointer none), 1, 8) := by kernel_rfl
section
variable {w W : World} {Rs : List Res} {r : Nat} {H : HeapM}
theorem ref_make (S : Sep w (refR r H :: Rs) W) {N : Nat} (G : H.Good N) (o : ObjM) (hp : o.pairs = []) (hk1 : 1 ≤ o.kind) (hk2 : o.kind ≤ 12) (sv : Value) (hs : ∀ W1, Sep w Rs W1 → SeesV W1 sv o.items) (hN : N ≤ 4000000) (hlen : o.items.length ≤ 4000000) :
  Calls Tryz.prog 41 #[.pointer (some ⟨r, 0, none⟩), .int .i64 o.kind, .string o.name, .int .i64 o.num, sv] W fun e W' => e = .returned (.agg #[.int .i64 4, .int .i64 (H.last + 1), .string ⟨#[]⟩]) ∧ Sep w (refR r (H.add o) :: Rs) W' := by
 obtain ⟨sa, sc, rfl⟩ : ∃ a c, sv = .slice a o.items.length c := by obtain ⟨a, c, e, _⟩ := hs W S.tail; exact ⟨a, c, e⟩
 obtain ⟨rows, hv, T0, h4⟩ := S.openRef
 have T : Sep w (boxR r (rhead hv H.last) :: ptrsR hv rows :: (rows.flatMap rowRes ++ Rs)) W := T0
 have hl1 : 0 ≤ H.last := G.ok.last
 have hl2 : H.last ≤ 4000000 := by have := G.wt; have := G.ok.last; omega
 have hlr : rows.length ≤ 4000000 := by
  have h1 : H.objs.length ≤ N := by have := G.wt; unfold HeapM.weight at this; omega
  have h2 := congrArg List.length h4
  simp at h2; omega
 obtain ⟨ha, hc, rfl⟩ := (T.row 1 rfl).form
 have c0 := cellAt (T.box 0 rfl) 0 (v := .slice ha rows.length hc) rfl
 have c1 := cellAt (T.box 0 rfl) 1 (v := .int .i64 H.last) rfl
 have z1 := frozenAt (T.box 0 rfl) 1
 have hrl := World.block_lt_of_cell? _ _ c0
 have T1 := T.setBox (cs := #[.slice ha rows.length hc, .int .i64 H.last]) (t := 59) 0 rfl 1 (.int .i64 (H.last + 1))
 have T2 := T1.alloc (valObj V.zero)
 have T3 := T2.addRow (Below.refl _ _) (e := 180) (m := 6) (f := pairCells) (v := .slice none 0 0) (l := []) (World.ownsRow_nil _ _ _ _) (by simp [Value.ownBlock])
 have T4 := T3.madeVals
 simp only [World.size_alloc, size_setCell] at T4
 have SA : Hid (Sep w (valsR (.slice (some ⟨W.heap.size + 1, 0, none⟩) 0 0) [] :: pairsR (.slice none 0 0) [] :: boxR W.heap.size (valObj V.zero) :: boxR r (rhead (.slice ha rows.length hc) (H.last + 1)) :: ptrsR (.slice ha rows.length hc) rows :: (rows.flatMap rowRes ++ Rs)) (((W.setCell ⟨r, 1, none⟩ (.int .i64 (H.last + 1))).alloc (valObj V.zero)).alloc (.cells #[] 24))) := Lib.hid T4
 have HX := Lib.hid (And.intro h4 (And.intro hs (And.intro hlr (And.intro hlen hp))))
 clear T0 T T1 T2 T3 T4 S hs h4 hlr hlen hp G
 go_enter Tryz.func41, Tryz.ntmps41
 go_wp2
 obtain ⟨wA, hwA⟩ : ∃ wA, ((W.setCell ⟨r, 1, none⟩ (.int .i64 (H.last + 1))).alloc (.cells #[.int .i64 0, .int .i64 0, .string ⟨#[]⟩] 24)).alloc (.cells #[] 24) = wA := ⟨_, rfl⟩
 have hwA' : ((W.setCell ⟨r, 1, none⟩ (.int .i64 (H.last + 1))).alloc (valObj V.zero)).alloc (.cells #[] 24) = wA := hwA
 rw [hwA'] at SA
 rw [hwA]
 clear hwA hwA' c0 c1 z1
 have TA := SA.out.drew
 obtain ⟨na, nc, w2, hap1, hsl2, hgr2, hat2⟩ := run_append_sees wA.drew (.slice (some ⟨W.heap.size + 1, 0, none⟩) 0 0) [] (TA.row 0 rfl) (.slice sa o.items.length sc) o.items (HX.out.2.1 _ (TA.sub (.cons _ (.cons _ (.cons _ (.cons _ (.cons _ (List.sublist_append_right _ _)))))))) (by have := HX.out.2.2.2.1; simp; omega) 56
 simp only [List.length_nil, Nat.zero_add, List.nil_append] at hap1 hsl2 hat2
 have S2 := TA.grown 0 rfl hsl2 hgr2 hat2
 have k20 := cellAt (S2.box 3 rfl) 0 (v := .slice ha rows.length hc) rfl
 have k21 := cellAt (S2.box 3 rfl) 1 (v := .int .i64 (H.last + 1)) rfl
 have hr2 := World.block_lt_of_cell? _ _ k20
 have S3 := S2.alloc (robj (H.last + 1) o (.slice na o.items.length nc) (.slice none 0 0))
 have kb0 := cellAt (S3.box 4 rfl) 0 (v := .slice ha rows.length hc) rfl
 have kb1 := cellAt (S3.box 4 rfl) 1 (v := .int .i64 (H.last + 1)) rfl
 have S4 := S3.alloc (.cells #[.pointer (some ⟨w2.heap.size, 0, none⟩)] 102)
 replace S4 : Sep w (boxR (w2.heap.size + 1) (.cells #[.pointer (some ⟨w2.heap.size, 0, none⟩)] 102) :: boxR w2.heap.size (robj (H.last + 1) o (.slice na o.items.length nc) (.slice none 0 0)) :: valsR (.slice na o.items.length nc) o.items :: pairsR (.slice none 0 0) [] :: boxR W.heap.size (valObj V.zero) :: boxR r (rhead (.slice ha rows.length hc) (H.last + 1)) :: ptrsR (.slice ha rows.length hc) rows :: (rows.flatMap rowRes ++ Rs)) ((w2.alloc (robj (H.last + 1) o (.slice na o.items.length nc) (.slice none 0 0))).alloc (.cells #[.pointer (some ⟨w2.heap.size, 0, none⟩)] 102)) := by
  have := S4
  simp only [World.size_alloc] at this
  exact this
 obtain ⟨i0, hi0, iz0, iz1, iz2⟩ := info_parts info_ptr
 obtain ⟨v', w3, hap2, hown, hgr, hnil, hat⟩ := run_append_own_at (P := Tryz.prog) (w := (w2.alloc (robj (H.last + 1) o (.slice na o.items.length nc) (.slice none 0 0))).alloc (.cells #[.pointer (some ⟨w2.heap.size, 0, none⟩)] 102)) 0 57 57 102 i0 _ 1 8 Tryz.underlying57 hi0 iz0 iz1 iz2 rfl (by decide) (.slice ha rows.length hc) rows.length (rows.flatMap RRow.ptr) (S4.row 6 rfl) ⟨w2.heap.size + 1, 0, none⟩ 1 1 (RRow.ptr (⟨H.last + 1, w2.heap.size, o, (.slice na o.items.length nc), .slice none 0 0⟩ : RRow)) rfl
  (news_block (S4.box 0 rfl)) (by intro u hu; simp [RRow.ptr] at hu; subst hu; rfl) (by have := HX.out.2.2.1; unfold maxLen; omega) (by have := HX.out.2.2.1; omega) (Nat.zero_le _)
 obtain ⟨pa, pc, rfl⟩ := ownsRow_form hown
 have hs' : slIs w3 102 1 RRow.ptr (.slice pa (rows.length + 1) pc) (rows ++ [(⟨H.last + 1, w2.heap.size, o, (.slice na o.items.length nc), .slice none 0 0⟩ : RRow)]) := by
  refine ⟨flatMap_length RRow.ptr 1 (fun _ => rfl) _, ?_⟩
  have := hown.2
  rw [List.flatMap_append, List.length_append]
  exact this
 have S5 := S4.grown 6 rfl hs' hgr hat
 have u0 := cellAt (S5.box 5 rfl) 0 (v := .slice ha rows.length hc) rfl
 have u1 := cellAt (S5.box 5 rfl) 1 (v := .int .i64 (H.last + 1)) rfl
 have f0 := frozenAt (S5.box 5 rfl) 0
 have hr3 := World.block_lt_of_cell? _ _ u0
 obtain ⟨y0, y1, y2, y3, y4, y5⟩ := valBlkO (S5.box 4 rfl)
 simp only [V.zero] at y0 y1 y2
 have hz3 := World.block_lt_of_cell? _ _ y0
 have k40 := cellAt (S4.box 5 rfl) 0 (v := .slice ha rows.length hc) rfl
 have k41 := cellAt (S4.box 5 rfl) 1 (v := .int .i64 (H.last + 1)) rfl
 have S6 := S5.setBox (cs := #[.slice ha rows.length hc, .int .i64 (H.last + 1)]) (t := 59) 5 rfl 0 (.slice pa (rows.length + 1) pc)
 have q0 := cellAt (S6.box 5 rfl) 0 (v := (.slice pa (rows.length + 1) pc)) rfl
 have q1 := cellAt (S6.box 5 rfl) 1 (v := .int .i64 (H.last + 1)) rfl
 have S7 := S6.setBox (cs := #[.int .i64 0, .int .i64 0, .string ⟨#[]⟩]) (t := 24) 4 rfl 0 (.int .i64 4)
 have S8 := S7.setBox (cs := #[.int .i64 4, .int .i64 0, .string ⟨#[]⟩]) (t := 24) 4 rfl 1 (.int .i64 (H.last + 1))
 have S9 := S8.setBox (cs := #[.int .i64 4, .int .i64 (H.last + 1), .string ⟨#[]⟩]) (t := 24) 4 rfl 2 (.string ⟨#[]⟩)
 have FIN : Hid (Sep w (refR r (H.add o) :: Rs) ((((w3.setCell ⟨r, 0, none⟩ (.slice pa (rows.length + 1) pc)).setCell ⟨W.heap.size, 0, none⟩ (.int .i64 4)).setCell ⟨W.heap.size, 1, none⟩ (.int .i64 (H.last + 1))).setCell ⟨W.heap.size, 2, none⟩ (.string ⟨#[]⟩))) := Lib.hid (by
  have U : Sep w (boxR (w2.heap.size + 1) (.cells #[.pointer (some ⟨w2.heap.size, 0, none⟩)] 102) :: boxR w2.heap.size (robj (H.last + 1) o (.slice na o.items.length nc) (.slice none 0 0)) :: valsR (.slice na o.items.length nc) o.items :: pairsR (.slice none 0 0) [] :: boxR W.heap.size (.cells #[.int .i64 4, .int .i64 (H.last + 1), .string ⟨#[]⟩] 24) :: boxR r (rhead (.slice pa (rows.length + 1) pc) (H.last + 1)) :: ptrsR (.slice pa (rows.length + 1) pc) (rows ++ [(⟨H.last + 1, w2.heap.size, o, (.slice na o.items.length nc), .slice none 0 0⟩ : RRow)]) :: (rows.flatMap rowRes ++ Rs)) _ := S9
  have U2 := U.tail.sub (.cons_cons _ (.cons_cons _ (.cons_cons _ (.cons _ (List.Sublist.refl _)))))
  have e2 : rowRes (⟨H.last + 1, w2.heap.size, o, (.slice na o.items.length nc), .slice none 0 0⟩ : RRow) = [boxR w2.heap.size (robj (H.last + 1) o (.slice na o.items.length nc) (.slice none 0 0)), valsR (.slice na o.items.length nc) o.items, pairsR (.slice none 0 0) []] := by rw [rowRes, HX.out.2.2.2.2]
  refine Sep.shutRef (rows := rows ++ [(⟨H.last + 1, w2.heap.size, o, (.slice na o.items.length nc), .slice none 0 0⟩ : RRow)]) (sv := (.slice pa (rows.length + 1) pc)) ?_ ?_
  ·
   have e : refParts r (.slice pa (rows.length + 1) pc) (H.add o).last (rows ++ [(⟨H.last + 1, w2.heap.size, o, (.slice na o.items.length nc), .slice none 0 0⟩ : RRow)]) ++ Rs = boxR r (rhead (.slice pa (rows.length + 1) pc) (H.last + 1)) :: ptrsR (.slice pa (rows.length + 1) pc) (rows ++ [(⟨H.last + 1, w2.heap.size, o, (.slice na o.items.length nc), .slice none 0 0⟩ : RRow)]) :: (rows.flatMap rowRes ++ ([boxR w2.heap.size (robj (H.last + 1) o (.slice na o.items.length nc) (.slice none 0 0)), valsR (.slice na o.items.length nc) o.items, pairsR (.slice none 0 0) []] ++ Rs)) := by
    rw [← e2]
    simp [refParts, List.flatMap_append, List.append_assoc, HeapM.add]
   rw [e]
   refine U2.perm ?_
   have := List.perm_append_comm_assoc [boxR w2.heap.size (robj (H.last + 1) o (.slice na o.items.length nc) (.slice none 0 0)), valsR (.slice na o.items.length nc) o.items, pairsR (.slice none 0 0) []] (boxR r (rhead (.slice pa (rows.length + 1) pc) (H.last + 1)) :: ptrsR (.slice pa (rows.length + 1) pc) (rows ++ [(⟨H.last + 1, w2.heap.size, o, (.slice na o.items.length nc), .slice none 0 0⟩ : RRow)]) :: rows.flatMap rowRes) Rs
   simpa [List.append_assoc] using this
  ·
   show H.objs ++ [(H.last + 1, o)] = _
   rw [HX.out.1]; simp)
 have hcell0 := cellAt (SA.out.box 3 rfl) 0 (v := .slice ha rows.length hc) rfl
 have hcell1 := cellAt (SA.out.box 3 rfl) 1 (v := .int .i64 (H.last + 1)) rfl
 unfold robj at hap2
 have hrz1 : ¬ r = W.heap.size := by omega
 have hrz2 : ¬ W.heap.size = r := by omega
 have HAP1 := Lib.hid hap1
 have HAP2 := Lib.hid hap2
 have HS0 : wA.drew.cell? ⟨r, 0, none⟩ = some (.slice ha rows.length hc) ∧ wA.drew.cell? ⟨r, 1, none⟩ = some (.int .i64 (H.last + 1)) := ⟨hcell0, hcell1⟩
 have HS1 : w2.cell? ⟨r, 0, none⟩ = some (.slice ha rows.length hc) ∧ w2.cell? ⟨r, 1, none⟩ = some (.int .i64 (H.last + 1)) := ⟨k20, k21⟩
 have HS2 : (w2.alloc (robj (H.last + 1) o (.slice na o.items.length nc) (.slice none 0 0))).cell? ⟨r, 0, none⟩ = some (.slice ha rows.length hc) ∧ (w2.alloc (robj (H.last + 1) o (.slice na o.items.length nc) (.slice none 0 0))).cell? ⟨r, 1, none⟩ = some (.int .i64 (H.last + 1)) := ⟨kb0, kb1⟩
 have HS3 : ((w2.alloc (robj (H.last + 1) o (.slice na o.items.length nc) (.slice none 0 0))).alloc (.cells #[.pointer (some ⟨w2.heap.size, 0, none⟩)] 102)).cell? ⟨r, 0, none⟩ = some (.slice ha rows.length hc) ∧ ((w2.alloc (robj (H.last + 1) o (.slice na o.items.length nc) (.slice none 0 0))).alloc (.cells #[.pointer (some ⟨w2.heap.size, 0, none⟩)] 102)).cell? ⟨r, 1, none⟩ = some (.int .i64 (H.last + 1)) := ⟨k40, k41⟩
 have HS4 : w3.cell? ⟨r, 0, none⟩ = some (.slice ha rows.length hc) ∧ w3.cell? ⟨r, 1, none⟩ = some (.int .i64 (H.last + 1)) := ⟨u0, u1⟩
 clear hap1 hap2 hcell0 hcell1 k20 k21 kb0 kb1 k40 k41
 clear TA S2 S3 S4 S5 S6 S7 S8 S9 hown hgr hnil hat hs' hi0 iz0 iz1 iz2 hsl2 hgr2 hat2 SA
 unfold robj at HS2 HS3
 refine wp_regionU 21 (fun w' => w'.cell? ⟨r, 0, none⟩ = some (.slice ha rows.length hc) ∧ w'.cell? ⟨r, 1, none⟩ = some (.int .i64 (H.last + 1))) (by kernel_rfl) ?_
 refine wpAnyU_take 0 [] (v := .pointer (some ⟨r, 0, none⟩)) (by simp only [List.getElem?_toArray, List.getElem?_cons_succ, List.getElem?_cons_zero]; rfl) (by kernel_rfl) (by kernel_rfl) (by kernel_rfl) (by kernel_rfl) (by kernel_rfl) (by exact fun _ _ _ h => h) (by rfl) (fun w hSw => ?_) HS0 ?_
 ·
  obtain ⟨s1, s2⟩ := hSw; go_simp
 simp only [Act.put, List.setIfInBounds_toArray, List.set_cons_zero, List.set_cons_succ]
 refine wpAnyU_take 1 [] (v := .pointer (some ⟨r, 0, none⟩)) (by simp only [List.getElem?_toArray, List.getElem?_cons_succ, List.getElem?_cons_zero]; rfl) (by kernel_rfl) (by kernel_rfl) (by kernel_rfl) (by kernel_rfl) (by kernel_rfl) (by exact fun _ _ _ h => h) (by rfl) (fun w hSw => ?_) HS0 ?_
 ·
  obtain ⟨s1, s2⟩ := hSw; go_simp
 simp only [Act.put, List.setIfInBounds_toArray, List.set_cons_zero, List.set_cons_succ]
 refine wpAnyU_take 2 [] (v := .pointer (some ⟨r, 0, none⟩)) (by simp only [List.getElem?_toArray, List.getElem?_cons_succ, List.getElem?_cons_zero]; rfl) (by kernel_rfl) (by kernel_rfl) (by kernel_rfl) (by kernel_rfl) (by kernel_rfl) (by exact fun _ _ _ h => h) (by rfl) (fun w hSw => ?_) HS0 ?_
 ·
  obtain ⟨s1, s2⟩ := hSw; go_simp
 simp only [Act.put, List.setIfInBounds_toArray, List.set_cons_zero, List.set_cons_succ]
 refine wpAnyU_take 3 [] (v := .pointer (some ⟨r, 0, none⟩)) (by simp only [List.getElem?_toArray, List.getElem?_cons_succ, List.getElem?_cons_zero]; rfl) (by kernel_rfl) (by kernel_rfl) (by kernel_rfl) (by kernel_rfl) (by kernel_rfl) (by exact fun _ _ _ h => h) (by rfl) (fun w hSw => ?_) HS0 ?_
 ·
  obtain ⟨s1, s2⟩ := hSw; go_simp
 simp only [Act.put, List.setIfInBounds_toArray, List.set_cons_zero, List.set_cons_succ]
 refine wpAnyU_take 4 [] (v := .slice ha rows.length hc) (by simp only [List.getElem?_toArray, List.getElem?_cons_succ, List.getElem?_cons_zero]; rfl) (by kernel_rfl) (by kernel_rfl) (by kernel_rfl) (by kernel_rfl) (by kernel_rfl) (by exact fun _ _ _ h => h) (by rfl) (fun w hSw => ?_) HS0 ?_
 ·
  obtain ⟨s1, s2⟩ := hSw; go_simp
 simp only [Act.put, List.setIfInBounds_toArray, List.set_cons_zero, List.set_cons_succ]
 refine wpAnyU_take 5 [] (v := .pointer (some ⟨r, 0, none⟩)) (by simp only [List.getElem?_toArray, List.getElem?_cons_succ, List.getElem?_cons_zero]; rfl) (by kernel_rfl) (by kernel_rfl) (by kernel_rfl) (by kernel_rfl) (by kernel_rfl) (by exact fun _ _ _ h => h) (by rfl) (fun w hSw => ?_) HS0 ?_
 ·
  obtain ⟨s1, s2⟩ := hSw; go_simp
 simp only [Act.put, List.setIfInBounds_toArray, List.set_cons_zero, List.set_cons_succ]
 refine wpAnyU_take 6 [] (v := .pointer (some ⟨r, 0, none⟩)) (by simp only [List.getElem?_toArray, List.getElem?_cons_succ, List.getElem?_cons_zero]; rfl) (by kernel_rfl) (by kernel_rfl) (by kernel_rfl) (by kernel_rfl) (by kernel_rfl) (by exact fun _ _ _ h => h) (by rfl) (fun w hSw => ?_) HS0 ?_
 ·
  obtain ⟨s1, s2⟩ := hSw; go_simp
 simp only [Act.put, List.setIfInBounds_toArray, List.set_cons_zero, List.set_cons_succ]
 refine wpAnyU_take 7 [] (v := .pointer (some ⟨r, 1, none⟩)) (by simp only [List.getElem?_toArray, List.getElem?_cons_succ, List.getElem?_cons_zero]; rfl) (by kernel_rfl) (by kernel_rfl) (by kernel_rfl) (by kernel_rfl) (by kernel_rfl) (by exact fun _ _ _ h => h) (by rfl) (fun w hSw => ?_) HS0 ?_
 ·
  obtain ⟨s1, s2⟩ := hSw; go_simp
 simp only [Act.put, List.setIfInBounds_toArray, List.set_cons_zero, List.set_cons_succ]
 refine wpAnyU_take 8 [] (v := .int .i64 (H.last + 1)) (by simp only [List.getElem?_toArray, List.getElem?_cons_succ, List.getElem?_cons_zero]; rfl) (by kernel_rfl) (by kernel_rfl) (by kernel_rfl) (by kernel_rfl) (by kernel_rfl) (by exact fun _ _ _ h => h) (by rfl) (fun w hSw => ?_) HS0 ?_
 ·
  obtain ⟨s1, s2⟩ := hSw; go_simp
 simp only [Act.put, List.setIfInBounds_toArray, List.set_cons_zero, List.set_cons_succ]
 refine wpAnyU_take 9 [] (v := .int .i64 o.kind) (by simp only [List.getElem?_toArray, List.getElem?_cons_succ, List.getElem?_cons_zero]; rfl) (by kernel_rfl) (by kernel_rfl) (by kernel_rfl) (by kernel_rfl) (by kernel_rfl) (by exact fun _ _ _ h => h) (by rfl) (fun w hSw => ?_) HS0 ?_
 ·
  obtain ⟨s1, s2⟩ := hSw; go_simp
 simp only [Act.put, List.setIfInBounds_toArray, List.set_cons_zero, List.set_cons_succ]
 refine wpAnyU_take 10 [] (v := .string o.name) (by simp only [List.getElem?_toArray, List.getElem?_cons_succ, List.getElem?_cons_zero]; rfl) (by kernel_rfl) (by kernel_rfl) (by kernel_rfl) (by kernel_rfl) (by kernel_rfl) (by exact fun _ _ _ h => h) (by rfl) (fun w hSw => ?_) HS0 ?_
 ·
  obtain ⟨s1, s2⟩ := hSw; go_simp
 simp only [Act.put, List.setIfInBounds_toArray, List.set_cons_zero, List.set_cons_succ]
 refine wpAnyU_take 11 [] (v := .int .i64 o.num) (by simp only [List.getElem?_toArray, List.getElem?_cons_succ, List.getElem?_cons_zero]; rfl) (by kernel_rfl) (by kernel_rfl) (by kernel_rfl) (by kernel_rfl) (by kernel_rfl) (by exact fun _ _ _ h => h) (by rfl) (fun w hSw => ?_) HS0 ?_
 ·
  obtain ⟨s1, s2⟩ := hSw; go_simp
 simp only [Act.put, List.setIfInBounds_toArray, List.set_cons_zero, List.set_cons_succ]
 refine wpAnyU_take 12 [] (v := .slice (some ⟨W.heap.size + 1, 0, none⟩) 0 0) (by simp only [List.getElem?_toArray, List.getElem?_cons_succ, List.getElem?_cons_zero]; rfl) (by kernel_rfl) (by kernel_rfl) (by kernel_rfl) (by kernel_rfl) (by kernel_rfl) (by exact fun _ _ _ h => h) (by rfl) (fun w hSw => ?_) HS0 ?_
 ·
  obtain ⟨s1, s2⟩ := hSw; go_simp
 simp only [Act.put, List.setIfInBounds_toArray, List.set_cons_zero, List.set_cons_succ]
 refine wpAnyU_take 13 [] (v := .slice sa o.items.length sc) (by simp only [List.getElem?_toArray, List.getElem?_cons_succ, List.getElem?_cons_zero]; rfl) (by kernel_rfl) (by kernel_rfl) (by kernel_rfl) (by kernel_rfl) (by kernel_rfl) (by exact fun _ _ _ h => h) (by rfl) (fun w hSw => ?_) HS0 ?_
 ·
  obtain ⟨s1, s2⟩ := hSw; go_simp
 simp only [Act.put, List.setIfInBounds_toArray, List.set_cons_zero, List.set_cons_succ]
 refine wpAnyU_one 14 (by kernel_rfl) (by simp only [List.getElem?_toArray, List.getElem?_cons_succ, List.getElem?_cons_zero]; rfl) (fun K hK => ?_)
 refine step_append_run (by rfl) _ _ _ (by rfl) (by rfl) (by rfl) HAP1.out ?_
 refine hK.out _ _ (fun _ => HS1) (fun _ => ?_)
 clear hK K
 refine wpAnyU_take 15 [] (v := .agg #[.int .i64 (H.last + 1), .int .i64 o.kind, .string o.name, .int .i64 o.num, .slice na o.items.length nc, .slice none 0 0]) (by simp only [List.getElem?_toArray, List.getElem?_cons_succ, List.getElem?_cons_zero]; rfl) (by kernel_rfl) (by kernel_rfl) (by kernel_rfl) (by kernel_rfl) (by kernel_rfl) (by exact fun _ _ _ h => h) (by rfl) (fun w hSw => ?_) HS1 ?_
 ·
  obtain ⟨s1, s2⟩ := hSw; go_simp
 simp only [Act.put, List.setIfInBounds_toArray, List.set_cons_zero, List.set_cons_succ]
 refine wpAnyU_one 16 (by kernel_rfl) (by simp only [List.getElem?_toArray, List.getElem?_cons_succ, List.getElem?_cons_zero]; rfl) (fun K hK => ?_)
 go_simp
 refine hK.out _ _ (fun _ => HS2) (fun _ => ?_)
 clear hK K
 refine wpAnyU_one 17 (by kernel_rfl) (by simp only [List.getElem?_toArray, List.getElem?_cons_succ, List.getElem?_cons_zero]; rfl) (fun K hK => ?_)
 go_simp
 refine hK.out _ _ (fun _ => HS3) (fun _ => ?_)
 clear hK K
 refine wpAnyU_one 18 (by kernel_rfl) (by simp only [List.getElem?_toArray, List.getElem?_cons_succ, List.getElem?_cons_zero]; rfl) (fun K hK => ?_)
 refine step_append_run (by rfl) _ _ _ (by rfl) (by rfl) (by rfl) HAP2.out ?_
 refine hK.out _ _ (fun _ => HS4) (fun _ => ?_)
 clear hK K
 refine wpAnyU_take 19 [20] (v := .pointer (some ⟨r, 0, none⟩)) (by simp only [List.getElem?_toArray, List.getElem?_cons_succ, List.getElem?_cons_zero]; rfl) (by kernel_rfl) (by kernel_rfl) (by kernel_rfl) (by kernel_rfl) (by kernel_rfl) (by exact fun _ _ _ h => h) (by rfl) (fun w hSw => ?_) HS4 ?_
 ·
  obtain ⟨s1, s2⟩ := hSw; go_simp
 simp only [Act.put, List.setIfInBounds_toArray, List.set_cons_zero, List.set_cons_succ]
 refine wpAnyU_take 20 [] (v := .pointer (some ⟨r, 0, none⟩)) (by simp only [List.getElem?_toArray, List.getElem?_cons_succ, List.getElem?_cons_zero]; rfl) (by kernel_rfl) (by kernel_rfl) (by kernel_rfl) (by kernel_rfl) (by kernel_rfl) (by exact fun _ _ _ h => h) (by rfl) (fun w hSw => ?_) HS4 ?_
 ·
  obtain ⟨s1, s2⟩ := hSw; go_simp
 simp only [Act.put, List.setIfInBounds_toArray, List.set_cons_zero, List.set_cons_succ]
 refine wpAnyU_one 21 (by kernel_rfl) (by simp only [List.getElem?_toArray, List.getElem?_cons_succ, List.getElem?_cons_zero]; rfl) (fun K hK => ?_)
 go_simp
 refine hK.out _ _ (fun h => absurd rfl h) (fun _ => ?_)
 clear hK K
 refine wpAnyU_done (by kernel_rfl) ?_ _
 go_wp2
 exact bodyPost_ret (v := .agg #[.int .i64 4, .int .i64 (H.last + 1), .string ⟨#[]⟩]) (by simp [results, Tryz.results41, go_sem, hrz1, hrz2, y0, y1, y2]) rfl ⟨rfl, FIN.out⟩
end
end Go.Proofs.YtijlebhoapdfnaaGreat
