/-
  OperateSame: for any objects and any three values, the law returns true: equality is as it must be, where nothing is raised. No condition.
-/
import Derived.Test.YtellmfimmghidaaGreatFrame
import Derived.Test.YtellmfimmghidaaGreatRowX
import Derived.Test.YtellmfimmghidaaGreatFit
import Derived.Test.YtellmfimmghidaaGreatOprN
import Derived.Test.YtellmfimmghidaaGreatOperM
import Derived.Test.YtellmfimmghidaaGreatOprD
import Derived.Test.YtellmfimmghidaaGreatCmpT
import Derived.Test.YtellmfimmghidaaGreatText1
import Derived.Test.YtellmfimmghidaaGreatOprE
import Derived.Test.YtellmfimmghidaaGreatTellE
import Derived.Test.YtellmfimmghidaaGreatRegI
import Derived.Test.YtellmfimmghidaaGreatRows3
import Derived.Test.YtellmfimmghidaaGreatOpen
import Derived.Test.YtellmfimmghidaaGreatRef2
import Derived.Test.YtellmfimmghidaaGreatRegS
/- Pairs of values as they come in. -/
namespace Go.Proofs.YtellmfimmghidaaGreat
set_option linter.unusedSimpArgs false
open Go.ChangeShapes Go.WideShapes Go.ChangeAt Go.RowKit
set_option linter.unusedVariables false
def pairC (p : V × V) : List Value := p.1.cells ++ p.2.cells
theorem pairC_len (p : V × V) : (pairC p).length = 6 := rfl
section
variable {H : Type} {enc : TypeId × Value → H} {w : World} {base : Nat} {spare : Nat → Bool} {held : Bool}
theorem cellsP : Tryz.prog.cellsOf 34 = 6 := by kernel_rfl
set_option maxRecDepth 100000 in
theorem pair_of_trod {n : Nat} {cs : List Value} {y : DataW H × List MemPlace} (h : DataW.trod enc Tryz.prog w base spare held n 34 cs = some y) : ∃ p : V × V, cs = pairC p := by
  obtain ⟨xs, n', _, hx, hlen, hxl, hf⟩ := DataW.trod_array Tryz.underlying34 h
  rw [cellsP] at hlen
  match cs, hlen with
  | [c0, c1, c2, c3, c4, c5], _ =>
    match xs, hxl with
    | [y0, y1], _ =>
      have h0 : DataW.trod enc Tryz.prog w base spare held n' 29 [c0, c1, c2] = some y0 := by have := hf 0 (by omega); simpa [cells1.2.2.2] using this
      have h1 : DataW.trod enc Tryz.prog w base spare held n' 29 [c3, c4, c5] = some y1 := by have := hf 1 (by omega); simpa [cells1.2.2.2] using this
      obtain ⟨v0, e0⟩ := val_of_trod h0
      obtain ⟨v1, e1⟩ := val_of_trod h1
      exact ⟨(v0, v1), by show [c0, c1, c2] ++ [c3, c4, c5] = _; rw [e0, e1]; rfl⟩
instance : Inhabited (V × V) := ⟨(V.zero, V.zero)⟩
set_option maxRecDepth 100000 in
theorem open_pairs {fuel : Nat} {v : Value} {x : DataW H × List MemPlace} (h : DataW.trod enc Tryz.prog w base spare held fuel 114 [v] = some x) : ∃ l : List (V × V), SeesR pairC 6 w v l := by
  rcases Deep.open_slice Tryz.underlying114 h with ⟨h0, _⟩ | ⟨a, len, cap, m, n, D, Pl, hcs, hb, hl, hm, hmm, hx, hi⟩
  · simp only [List.cons.injEq, and_true] at h0
    subst h0
    exact ⟨[], ⟨none, 0, rfl, by simp, by simp, .inl rfl⟩⟩
  · simp only [List.cons.injEq, and_true] at hcs
    subst hcs
    have hlm : len ≤ m := by rw [hmm]; split <;> omega
    rw [cellsP] at hi
    obtain ⟨f, hf⟩ : ∃ f : Nat → V × V, ∀ i, i < len → ∀ j, j < 6 → w.cell? (a.add (i * 6 + j)) = (pairC (f i))[j]? :=
      Deep.choose_lt (α := V × V) (p := fun i v => ∀ j, j < 6 → w.cell? (a.add (i * 6 + j)) = (pairC v)[j]?) (fun i hil => by
        obtain ⟨cs, h1, h2⟩ := hi i (by omega)
        obtain ⟨v, rfl⟩ := pair_of_trod h2
        obtain ⟨_, _, h3⟩ := World.cells?_some h1
        exact ⟨v, fun j hj => by rw [← Deep.add_add]; exact h3 j hj⟩)
    have hlen : ((List.range len).map f).length = len := by simp
    obtain ⟨g, o, spot⟩ := a
    refine ⟨(List.range len).map f, ⟨some ⟨g, o, spot⟩, cap, by rw [hlen], by rw [hlen]; exact hl, hm, ?_⟩⟩
    rcases Nat.eq_zero_or_pos len with h0 | h0
    · left; subst h0; rfl
    · right
      have hs : spot = none := by
        have := hf 0 h0 0 (by omega)
        have h9 : w.cell? (Addr.add ⟨g, o, spot⟩ 0) = some (.int .i64 (f 0).1.kind) := by simpa [pairC, V.cells] using this
        simpa [Addr.add] using World.cell?_spot h9
      subst hs
      refine ⟨g, o, rfl, fun i v hv j u hu => ?_⟩
      have hil : i < len := by have := (List.getElem?_eq_some_iff.1 hv).1; rwa [hlen] at this
      have hv' : f i = v := by rw [List.getElem?_map, List.getElem?_range hil] at hv; exact Option.some.inj hv
      subst hv'
      have hadd : ∀ j, (⟨g, o, none⟩ : Addr).add j = ⟨g, o + j, none⟩ := fun j => by unfold Addr.add; split <;> simp_all
      have hj : j < 6 := by have := (List.getElem?_eq_some_iff.1 hu).1; rwa [pairC_len] at this
      have k0 := hf i hil j hj
      rw [hadd, ← Nat.add_assoc, hu] at k0
      exact k0
end
end Go.Proofs.YtellmfimmghidaaGreat
/- ch 16: objects as they come in. -/
namespace Go.Proofs.YtellmfimmghidaaGreat
set_option linter.unusedSimpArgs false
open Go.ChangeShapes Go.WideShapes Go.ChangeAt Go.RowKit
set_option linter.unusedVariables false
/-- An object as it comes in: its kind, and the slices of its items and pairs, with what they hold. -/
structure ObjI where
  kind : Int
  iv : Value
  pv : Value
  items : List V
  pairs : List (V × V)
def ObjI.cells (p : ObjI) : List Value := [.int .u8 p.kind, p.iv, p.pv]
theorem ObjI.cells_len (p : ObjI) : p.cells.length = 3 := rfl
def ObjI.In (w : World) (p : ObjI) : Prop := (Lit.int .u8 p.kind).wf = true ∧ SeesV w p.iv p.items ∧ SeesR pairC 6 w p.pv p.pairs
/-- A row of them. -/
def SeesO (w : World) (sv : Value) (l : List ObjI) : Prop := SeesR ObjI.cells 3 w sv l ∧ ∀ p ∈ l, p.In w
theorem ObjI.In.below {w W : World} {p : ObjI} (h : p.In w) (b : Below w.heap.size w W) : p.In W := by
  refine ⟨h.1, ?_, h.2.2.keep fun p v hp => cellBelow hp b⟩
  obtain ⟨a, c, h1, h2, h3, h4⟩ := h.2.1
  refine ⟨a, c, h1, h2, h3, ?_⟩
  rcases h4 with h4 | ⟨g, o, h5, h6⟩
  · exact .inl h4
  · exact .inr ⟨g, o, h5, fun i v hv => by obtain ⟨c0, c1, c2⟩ := h6 i v hv; exact ⟨cellBelow c0 b, cellBelow c1 b, cellBelow c2 b⟩⟩
theorem SeesO.below {w W : World} {sv : Value} {l : List ObjI} (h : SeesO w sv l) (b : Below w.heap.size w W) : SeesO W sv l :=
  ⟨h.1.keep fun p v hp => cellBelow hp b, fun p hp => (h.2 p hp).below b⟩
section
variable {H : Type} {enc : TypeId × Value → H} {w : World} {base : Nat} {spare : Nat → Bool} {held : Bool}
theorem cellsO : Tryz.prog.cellsOf 116 = 3 ∧ Tryz.prog.cellsOf 5 = 1 ∧ Tryz.prog.cellsOf 22 = 1 ∧ Tryz.prog.cellsOf 114 = 1 := ⟨by kernel_rfl, by kernel_rfl, by kernel_rfl, by kernel_rfl⟩
set_option maxRecDepth 100000 in
theorem obj_of_trod {n : Nat} {cs : List Value} {y : DataW H × List MemPlace} (h : DataW.trod enc Tryz.prog w base spare held n 116 cs = some y) : ∃ p : ObjI, cs = p.cells ∧ p.In w := by
  obtain ⟨xs, n', _, hx, hlen, hxl, hf⟩ := DataW.trod_struct Tryz.underlying116 h
  rw [cellsO.1] at hlen
  match cs, hlen with
  | [c0, c1, c2], _ =>
    match xs, hxl with
    | [y0, y1, y2], _ =>
      have h0 : DataW.trod enc Tryz.prog w base spare held n' 5 [c0] = some y0 := by have := hf 0 _ rfl; simpa [cellsO.2.1] using this
      have h1 : DataW.trod enc Tryz.prog w base spare held n' 22 [c1] = some y1 := by have := hf 1 _ rfl; simpa [cellsO.2.2.1, cellsO.2.1] using this
      have h2 : DataW.trod enc Tryz.prog w base spare held n' 114 [c2] = some y2 := by have := hf 2 _ rfl; simpa [cellsO.2.2.2, cellsO.2.2.1, cellsO.2.1] using this
      obtain ⟨k, e0, _, hk⟩ := DataW.trod_int Tryz.underlying5 h0
      simp only [List.cons.injEq, and_true] at e0
      obtain ⟨l1, s1, _⟩ := open_vals h1
      obtain ⟨l2, s2⟩ := open_pairs h2
      exact ⟨⟨k, c1, c2, l1, l2⟩, by rw [e0]; rfl, hk, s1, s2⟩
instance : Inhabited ObjI := ⟨⟨0, .slice none 0 0, .slice none 0 0, [], []⟩⟩
set_option maxRecDepth 100000 in
theorem open_objs {fuel : Nat} {v : Value} {x : DataW H × List MemPlace} (h : DataW.trod enc Tryz.prog w base spare held fuel 53 [v] = some x) : ∃ l : List ObjI, SeesO w v l := by
  rcases Deep.open_slice Tryz.underlying53 h with ⟨h0, _⟩ | ⟨a, len, cap, m, n, D, Pl, hcs, hb, hl, hm, hmm, hx, hi⟩
  · simp only [List.cons.injEq, and_true] at h0
    subst h0
    exact ⟨[], ⟨none, 0, rfl, by simp, by simp, .inl rfl⟩, by simp⟩
  · simp only [List.cons.injEq, and_true] at hcs
    subst hcs
    have hlm : len ≤ m := by rw [hmm]; split <;> omega
    rw [cellsO.1] at hi
    obtain ⟨f, hf⟩ : ∃ f : Nat → ObjI, ∀ i, i < len → (∀ j, j < 3 → w.cell? (a.add (i * 3 + j)) = (f i).cells[j]?) ∧ (f i).In w :=
      Deep.choose_lt (α := ObjI) (p := fun i v => (∀ j, j < 3 → w.cell? (a.add (i * 3 + j)) = v.cells[j]?) ∧ v.In w) (fun i hil => by
        obtain ⟨cs, h1, h2⟩ := hi i (by omega)
        obtain ⟨v, rfl, hv⟩ := obj_of_trod h2
        obtain ⟨_, _, h3⟩ := World.cells?_some h1
        exact ⟨v, fun j hj => by rw [← Deep.add_add]; exact h3 j hj, hv⟩)
    have hlen : ((List.range len).map f).length = len := by simp
    obtain ⟨g, o, spot⟩ := a
    refine ⟨(List.range len).map f, ⟨some ⟨g, o, spot⟩, cap, by rw [hlen], by rw [hlen]; exact hl, hm, ?_⟩, fun p hp => ?_⟩
    · rcases Nat.eq_zero_or_pos len with h0 | h0
      · left; subst h0; rfl
      · right
        have hs : spot = none := by
          have := (hf 0 h0).1 0 (by omega)
          have h9 : w.cell? (Addr.add ⟨g, o, spot⟩ 0) = some (.int .u8 (f 0).kind) := by simpa [ObjI.cells] using this
          simpa [Addr.add] using World.cell?_spot h9
        subst hs
        refine ⟨g, o, rfl, fun i v hv j u hu => ?_⟩
        have hil : i < len := by have := (List.getElem?_eq_some_iff.1 hv).1; rwa [hlen] at this
        have hv' : f i = v := by rw [List.getElem?_map, List.getElem?_range hil] at hv; exact Option.some.inj hv
        subst hv'
        have hadd : ∀ j, (⟨g, o, none⟩ : Addr).add j = ⟨g, o + j, none⟩ := fun j => by unfold Addr.add; split <;> simp_all
        have hj : j < 3 := by have := (List.getElem?_eq_some_iff.1 hu).1; rwa [ObjI.cells_len] at this
        have k0 := (hf i hil).1 j hj
        rw [hadd, ← Nat.add_assoc, hu] at k0
        exact k0
    · obtain ⟨i, hi, rfl⟩ := List.mem_map.1 hp
      exact (hf i (List.mem_range.1 hi)).2
end
end Go.Proofs.YtellmfimmghidaaGreat
/- The reference's Make, Put and Replace at any place. -/
namespace Go.Proofs.YtellmfimmghidaaGreat
set_option linter.unusedSimpArgs false
open Go.RowKit
set_option linter.unusedVariables false
theorem erase_setR {α : Type} : ∀ (l : List α) (i : Nat) (x : α), (l.set i x).eraseIdx i = l.eraseIdx i
  | [], _, _ => rfl
  | a :: l, 0, x => rfl
  | a :: l, i + 1, x => by simp only [List.set_cons_succ, List.eraseIdx_cons_succ, erase_setR l i x]
section
variable {w W : World} {Rs : List Res} {r : Nat} {H : HeapM}
theorem Sep.yMake (S : Sep w Rs W) (i : Nat) (hi : Rs[i]? = some (refR r H)) {N : Nat} (G : H.Good N) (o : ObjM) (hp : o.pairs = []) (hk1 : 1 ≤ o.kind) (hk2 : o.kind ≤ 12) (sv : Value) (hs : ∀ W1, Sep w (Rs.eraseIdx i) W1 → SeesV W1 sv o.items) (hN : N ≤ 4000000) (hlen : o.items.length ≤ 4000000) :
    Calls Tryz.prog 60 #[.pointer (some ⟨r, 0, none⟩), .int .i64 o.kind, .string o.name, .int .i64 o.num, sv] W fun e W' => e = .returned (.agg #[.int .i64 4, .int .i64 (H.last + 1), .string ⟨#[]⟩]) ∧ Sep w (Rs.set i (refR r (H.add o))) W' := by
  have S0 : Sep w (refR r H :: Rs.eraseIdx i) W := S.perm (perm_pull hi)
  exact (ref_make S0 G o hp hk1 hk2 sv hs hN hlen).mono fun e W' ⟨e1, e2⟩ => ⟨e1, e2.perm (perm_push hi).symm⟩
theorem Sep.yPut (S : Sep w Rs W) (i : Nat) (hi : Rs[i]? = some (refR r H)) {N : Nat} (F : H.Fit N) (v k x : V) :
    Calls Tryz.prog 63 #[.pointer (some ⟨r, 0, none⟩), v.val, k.val, x.val] W fun e W' => e = .returned (.bool (H.canPut v k)) ∧ Sep w (Rs.set i (refR r (H.put v k x))) W' := by
  have S0 : Sep w (refR r H :: Rs.eraseIdx i) W := S.perm (perm_pull hi)
  exact (ref_put S0 F.G.ok.nk F.P v k x).mono fun e W' ⟨e1, e2⟩ => ⟨e1, e2.perm (perm_push hi).symm⟩
theorem Sep.yReplace (S : Sep w Rs W) (i : Nat) (hi : Rs[i]? = some (refR r H)) {N : Nat} (G : H.Good N) (v : V) (p q : Int) (sv : Value) (l : List V) (hs : ∀ W1, Sep w (Rs.eraseIdx i) W1 → SeesV W1 sv l) (hN : N + l.length ≤ 4000000) :
    Calls Tryz.prog 62 #[.pointer (some ⟨r, 0, none⟩), v.val, .int .i64 p, .int .i64 q, sv] W fun e W' => e = .returned (.bool (H.canReplace v p q)) ∧ Sep w (Rs.set i (refR r (H.replace v p q l))) W' := by
  have S0 : Sep w (refR r H :: Rs.eraseIdx i) W := S.perm (perm_pull hi)
  exact (ref_replace S0 G v p q sv l hs hN).mono fun e W' ⟨e1, e2⟩ => ⟨e1, e2.perm (perm_push hi).symm⟩
theorem refNew {w W : World} {Rs : List Res} (S : Sep w Rs W) : Sep w (refR W.heap.size ⟨[], 0⟩ :: Rs) (W.alloc (.cells #[.slice none 0 0, .int .i64 0] 113)) := by
  have h1 := S.addRow (Below.refl _ _) (e := 160) (m := 1) (f := RRow.ptr) (v := .slice none 0 0) (l := []) (World.ownsRow_nil _ _ _ _) (by simp [Value.ownBlock])
  have h2 := h1.alloc (.cells #[.slice none 0 0, .int .i64 0] 113)
  exact Sep.shutRef (H := ⟨[], 0⟩) (rows := []) (sv := .slice none 0 0) h2 rfl
end
end Go.Proofs.YtellmfimmghidaaGreat
/- ch 16: the laws' own small functions. -/
namespace Go.Proofs.YtellmfimmghidaaGreat
set_option linter.unusedSimpArgs false
open Go.RowKit
set_option linter.unusedVariables false
theorem lnum_ok (W : World) (n : Int) : Calls Tryz.prog 16 #[.int .i64 n] W fun e W' => e = .returned (.agg #[.int .i64 2, .int .i64 n, .string ⟨#[]⟩]) ∧ Below W.heap.size W W' := by
  go_enter Tryz.func16, Tryz.ntmps16
  go_wp2
  exact bodyPost_ret (v := .agg #[.int .i64 2, .int .i64 n, .string ⟨#[]⟩]) (by simp [results, Tryz.results16, go_sem]) rfl ⟨rfl, by (repeat (first | exact Below.refl _ _ | assumption | refine Below.drewN ?_ _ | refine Below.drew ?_ | refine Below.alloc ?_ (by (try simp only [World.size_alloc, size_drewN, size_setCell]); omega) _ | refine Below.setCell ?_ (by (try simp only [World.size_alloc, size_drewN, size_setCell]); omega) _))⟩
theorem lstr_ok (W : World) (s : ByteArray) : Calls Tryz.prog 17 #[.string s] W fun e W' => e = .returned (.agg #[.int .i64 3, .int .i64 0, .string s]) ∧ Below W.heap.size W W' := by
  go_enter Tryz.func17, Tryz.ntmps17
  go_wp2
  exact bodyPost_ret (v := .agg #[.int .i64 3, .int .i64 0, .string s]) (by simp [results, Tryz.results17, go_sem]) rfl ⟨rfl, by (repeat (first | exact Below.refl _ _ | assumption | refine Below.drewN ?_ _ | refine Below.drew ?_ | refine Below.alloc ?_ (by (try simp only [World.size_alloc, size_drewN, size_setCell]); omega) _ | refine Below.setCell ?_ (by (try simp only [World.size_alloc, size_drewN, size_setCell]); omega) _))⟩
theorem lyes_ok (W : World) (b : Bool) : Calls Tryz.prog 20 #[.bool b] W fun e W' => e = .returned (.agg #[.int .i64 1, .int .i64 (if b = true then 1 else 0), .string ⟨#[]⟩]) ∧ Below W.heap.size W W' := by
  cases b
  · go_enter Tryz.func20, Tryz.ntmps20
    go_wp2
    exact bodyPost_ret (v := .agg #[.int .i64 1, .int .i64 0, .string ⟨#[]⟩]) (by simp [results, Tryz.results20, go_sem]) rfl ⟨rfl, by (repeat (first | exact Below.refl _ _ | assumption | refine Below.drewN ?_ _ | refine Below.drew ?_ | refine Below.alloc ?_ (by (try simp only [World.size_alloc, size_drewN, size_setCell]); omega) _ | refine Below.setCell ?_ (by (try simp only [World.size_alloc, size_drewN, size_setCell]); omega) _))⟩
  · go_enter Tryz.func20, Tryz.ntmps20
    go_wp2
    exact bodyPost_ret (v := .agg #[.int .i64 1, .int .i64 1, .string ⟨#[]⟩]) (by simp [results, Tryz.results20, go_sem]) rfl ⟨rfl, by (repeat (first | exact Below.refl _ _ | assumption | refine Below.drewN ?_ _ | refine Below.drew ?_ | refine Below.alloc ?_ (by (try simp only [World.size_alloc, size_drewN, size_setCell]); omega) _ | refine Below.setCell ?_ (by (try simp only [World.size_alloc, size_drewN, size_setCell]); omega) _))⟩
theorem none_z (W : World) : Calls Tryz.prog 19 #[excZ] W fun e W' => e = .returned (.bool true) ∧ Below W.heap.size W W' := by
  go_enter Tryz.func19, Tryz.ntmps19
  go_wp2
  go_ret
  exact ⟨rfl, by (repeat (first | exact Below.refl _ _ | assumption | refine Below.drewN ?_ _ | refine Below.drew ?_ | refine Below.alloc ?_ (by (try simp only [World.size_alloc, size_drewN, size_setCell]); omega) _ | refine Below.setCell ?_ (by (try simp only [World.size_alloc, size_drewN, size_setCell]); omega) _))⟩
theorem none_type (W : World) : Calls Tryz.prog 19 #[excN typeError] W fun e W' => e = .returned (.bool false) ∧ Below W.heap.size W W' := by
  go_enter Tryz.func19, Tryz.ntmps19
  go_wp2
  go_ret
  exact ⟨rfl, by (repeat (first | exact Below.refl _ _ | assumption | refine Below.drewN ?_ _ | refine Below.drew ?_ | refine Below.alloc ?_ (by (try simp only [World.size_alloc, size_drewN, size_setCell]); omega) _ | refine Below.setCell ?_ (by (try simp only [World.size_alloc, size_drewN, size_setCell]); omega) _))⟩
theorem raised_type (W : World) : Calls Tryz.prog 21 #[excN typeError, .string typeError] W fun e W' => e = .returned (.bool true) ∧ Below W.heap.size W W' := by
  go_enter Tryz.func21, Tryz.ntmps21
  go_wp2
  go_ret
  exact ⟨rfl, by (repeat (first | exact Below.refl _ _ | assumption | refine Below.drewN ?_ _ | refine Below.drew ?_ | refine Below.alloc ?_ (by (try simp only [World.size_alloc, size_drewN, size_setCell]); omega) _ | refine Below.setCell ?_ (by (try simp only [World.size_alloc, size_drewN, size_setCell]); omega) _))⟩
theorem raised_z_type (W : World) : Calls Tryz.prog 21 #[excZ, .string typeError] W fun e W' => e = .returned (.bool false) ∧ Below W.heap.size W W' := by
  go_enter Tryz.func21, Tryz.ntmps21
  go_wp2
  go_ret
  exact ⟨rfl, by (repeat (first | exact Below.refl _ _ | assumption | refine Below.drewN ?_ _ | refine Below.drew ?_ | refine Below.alloc ?_ (by (try simp only [World.size_alloc, size_drewN, size_setCell]); omega) _ | refine Below.setCell ?_ (by (try simp only [World.size_alloc, size_drewN, size_setCell]); omega) _))⟩
theorem none_index (W : World) : Calls Tryz.prog 19 #[excN indexError] W fun e W' => e = .returned (.bool false) ∧ Below W.heap.size W W' := by
  go_enter Tryz.func19, Tryz.ntmps19
  go_wp2
  go_ret
  exact ⟨rfl, by (repeat (first | exact Below.refl _ _ | assumption | refine Below.drewN ?_ _ | refine Below.drew ?_ | refine Below.alloc ?_ (by (try simp only [World.size_alloc, size_drewN, size_setCell]); omega) _ | refine Below.setCell ?_ (by (try simp only [World.size_alloc, size_drewN, size_setCell]); omega) _))⟩
theorem raised_index (W : World) : Calls Tryz.prog 21 #[excN indexError, .string indexError] W fun e W' => e = .returned (.bool true) ∧ Below W.heap.size W W' := by
  go_enter Tryz.func21, Tryz.ntmps21
  go_wp2
  go_ret
  exact ⟨rfl, by (repeat (first | exact Below.refl _ _ | assumption | refine Below.drewN ?_ _ | refine Below.drew ?_ | refine Below.alloc ?_ (by (try simp only [World.size_alloc, size_drewN, size_setCell]); omega) _ | refine Below.setCell ?_ (by (try simp only [World.size_alloc, size_drewN, size_setCell]); omega) _))⟩
theorem raised_z_index (W : World) : Calls Tryz.prog 21 #[excZ, .string indexError] W fun e W' => e = .returned (.bool false) ∧ Below W.heap.size W W' := by
  go_enter Tryz.func21, Tryz.ntmps21
  go_wp2
  go_ret
  exact ⟨rfl, by (repeat (first | exact Below.refl _ _ | assumption | refine Below.drewN ?_ _ | refine Below.drew ?_ | refine Below.alloc ?_ (by (try simp only [World.size_alloc, size_drewN, size_setCell]); omega) _ | refine Below.setCell ?_ (by (try simp only [World.size_alloc, size_drewN, size_setCell]); omega) _))⟩
theorem none_memory (W : World) : Calls Tryz.prog 19 #[excN memoryError] W fun e W' => e = .returned (.bool false) ∧ Below W.heap.size W W' := by
  go_enter Tryz.func19, Tryz.ntmps19
  go_wp2
  go_ret
  exact ⟨rfl, by (repeat (first | exact Below.refl _ _ | assumption | refine Below.drewN ?_ _ | refine Below.drew ?_ | refine Below.alloc ?_ (by (try simp only [World.size_alloc, size_drewN, size_setCell]); omega) _ | refine Below.setCell ?_ (by (try simp only [World.size_alloc, size_drewN, size_setCell]); omega) _))⟩
theorem raised_memory (W : World) : Calls Tryz.prog 21 #[excN memoryError, .string memoryError] W fun e W' => e = .returned (.bool true) ∧ Below W.heap.size W W' := by
  go_enter Tryz.func21, Tryz.ntmps21
  go_wp2
  go_ret
  exact ⟨rfl, by (repeat (first | exact Below.refl _ _ | assumption | refine Below.drewN ?_ _ | refine Below.drew ?_ | refine Below.alloc ?_ (by (try simp only [World.size_alloc, size_drewN, size_setCell]); omega) _ | refine Below.setCell ?_ (by (try simp only [World.size_alloc, size_drewN, size_setCell]); omega) _))⟩
theorem raised_z_memory (W : World) : Calls Tryz.prog 21 #[excZ, .string memoryError] W fun e W' => e = .returned (.bool false) ∧ Below W.heap.size W W' := by
  go_enter Tryz.func21, Tryz.ntmps21
  go_wp2
  go_ret
  exact ⟨rfl, by (repeat (first | exact Below.refl _ _ | assumption | refine Below.drewN ?_ _ | refine Below.drew ?_ | refine Below.alloc ?_ (by (try simp only [World.size_alloc, size_drewN, size_setCell]); omega) _ | refine Below.setCell ?_ (by (try simp only [World.size_alloc, size_drewN, size_setCell]); omega) _))⟩
theorem none_deep (W : World) : Calls Tryz.prog 19 #[excN recursionError] W fun e W' => e = .returned (.bool false) ∧ Below W.heap.size W W' := by
  go_enter Tryz.func19, Tryz.ntmps19
  go_wp2
  go_ret
  exact ⟨rfl, by (repeat (first | exact Below.refl _ _ | assumption | refine Below.drewN ?_ _ | refine Below.drew ?_ | refine Below.alloc ?_ (by (try simp only [World.size_alloc, size_drewN, size_setCell]); omega) _ | refine Below.setCell ?_ (by (try simp only [World.size_alloc, size_drewN, size_setCell]); omega) _))⟩
theorem raised_deep (W : World) : Calls Tryz.prog 21 #[excN recursionError, .string recursionError] W fun e W' => e = .returned (.bool true) ∧ Below W.heap.size W W' := by
  go_enter Tryz.func21, Tryz.ntmps21
  go_wp2
  go_ret
  exact ⟨rfl, by (repeat (first | exact Below.refl _ _ | assumption | refine Below.drewN ?_ _ | refine Below.drew ?_ | refine Below.alloc ?_ (by (try simp only [World.size_alloc, size_drewN, size_setCell]); omega) _ | refine Below.setCell ?_ (by (try simp only [World.size_alloc, size_drewN, size_setCell]); omega) _))⟩
theorem raised_z_deep (W : World) : Calls Tryz.prog 21 #[excZ, .string recursionError] W fun e W' => e = .returned (.bool false) ∧ Below W.heap.size W W' := by
  go_enter Tryz.func21, Tryz.ntmps21
  go_wp2
  go_ret
  exact ⟨rfl, by (repeat (first | exact Below.refl _ _ | assumption | refine Below.drewN ?_ _ | refine Below.drew ?_ | refine Below.alloc ?_ (by (try simp only [World.size_alloc, size_drewN, size_setCell]); omega) _ | refine Below.setCell ?_ (by (try simp only [World.size_alloc, size_drewN, size_setCell]); omega) _))⟩
end Go.Proofs.YtellmfimmghidaaGreat
/- ch 16: what comes in. -/
namespace Go.Proofs.YtellmfimmghidaaGreat
set_option linter.unusedSimpArgs false
open Go.RowKit
set_option linter.unusedVariables false
theorem okWide_array {P : Program} {w : World} {r : Reach} {base : Nat} {t e : TypeId} {n : Nat} {v : Value} (ht : P.underlying t = some (.array n e)) (h : Value.okWide P w r base t v) : ∃ cs, v = .agg cs ∧ cs.size = P.cellsOf t := by
  simp only [Value.okWide, ht] at h
  obtain ⟨cs, h1, h2, _⟩ := h
  exact ⟨cs, h1, h2⟩
section
variable {HT : Type} {enc : TypeId × Value → HT} {w : World} {base : Nat} {spare : Nat → Bool} {held : Bool}
set_option maxRecDepth 100000 in
theorem ints2_of_trod {n : Nat} {cs : List Value} {y : DataW HT × List MemPlace} (h : DataW.trod enc Tryz.prog w base spare held n 26 cs = some y) : ∃ k0 k1 : Int, cs = [.int .i64 k0, .int .i64 k1] ∧ (Lit.int .i64 k0).wf = true ∧ (Lit.int .i64 k1).wf = true := by
  obtain ⟨xs, n', _, hx, hlen, hxl, hf⟩ := DataW.trod_array Tryz.underlying26 h
  have hc : Tryz.prog.cellsOf 26 = 2 ∧ Tryz.prog.cellsOf 2 = 1 := ⟨by kernel_rfl, by kernel_rfl⟩
  rw [hc.1] at hlen
  match cs, hlen with
  | [c0, c1], _ =>
    match xs, hxl with
    | [y0, y1], _ =>
      have h0 : DataW.trod enc Tryz.prog w base spare held n' 2 [c0] = some y0 := by have := hf 0 (by omega); simpa [hc.2] using this
      have h1 : DataW.trod enc Tryz.prog w base spare held n' 2 [c1] = some y1 := by have := hf 1 (by omega); simpa [hc.2] using this
      obtain ⟨k0, e0, _, a0⟩ := DataW.trod_int Tryz.underlying2 h0
      obtain ⟨k1, e1, _, a1⟩ := DataW.trod_int Tryz.underlying2 h1
      simp only [List.cons.injEq, and_true] at e0 e1
      exact ⟨k0, k1, by rw [e0, e1], a0, a1⟩
set_option maxRecDepth 100000 in
theorem strs2_of_trod {n : Nat} {cs : List Value} {y : DataW HT × List MemPlace} (h : DataW.trod enc Tryz.prog w base spare held n 27 cs = some y) : ∃ s0 s1 : ByteArray, cs = [.string s0, .string s1] ∧ s0.size ≤ maxLen ∧ s1.size ≤ maxLen := by
  obtain ⟨xs, n', _, hx, hlen, hxl, hf⟩ := DataW.trod_array Tryz.underlying27 h
  have hc : Tryz.prog.cellsOf 27 = 2 ∧ Tryz.prog.cellsOf 9 = 1 := ⟨by kernel_rfl, by kernel_rfl⟩
  rw [hc.1] at hlen
  match cs, hlen with
  | [c0, c1], _ =>
    match xs, hxl with
    | [y0, y1], _ =>
      have h0 : DataW.trod enc Tryz.prog w base spare held n' 9 [c0] = some y0 := by have := hf 0 (by omega); simpa [hc.2] using this
      have h1 : DataW.trod enc Tryz.prog w base spare held n' 9 [c1] = some y1 := by have := hf 1 (by omega); simpa [hc.2] using this
      obtain ⟨k0, e0, _, a0⟩ := DataW.trod_string Tryz.underlying9 h0
      obtain ⟨k1, e1, _, a1⟩ := DataW.trod_string Tryz.underlying9 h1
      simp only [List.cons.injEq, and_true] at e0 e1
      exact ⟨k0, k1, by rw [e0, e1], a0, a1⟩
end
end Go.Proofs.YtellmfimmghidaaGreat
/- ch 16's example: plainly. -/
namespace Go.Proofs.YtellmfimmghidaaGreat
set_option linter.unusedSimpArgs false
open Go.RowKit
set_option linter.unusedVariables false
namespace KO16
def H0 : HeapM := ⟨[], 0⟩
def sA : V := ⟨3, 0, ⟨#[97]⟩, by decide, by decide, by decide⟩
def v1 : V := ⟨2, 1, ⟨#[]⟩, by decide, by decide, by decide⟩
def vT : V := ⟨1, 1, ⟨#[]⟩, by decide, by decide, by decide⟩
def rT : V := ⟨4, 1, ⟨#[]⟩, by decide, by decide, by decide⟩
def rL : V := ⟨4, 2, ⟨#[]⟩, by decide, by decide, by decide⟩
def oT : ObjM := rowO 2 (by decide) [sA]
def oL : ObjM := rowO 1 (by decide) [v1, vT, rT]
def H1 : HeapM := H0.add oT
def H2 : HeapM := H1.add oL
theorem good0 : H0.Good 0 := good_empty
theorem good1 : H1.Good 10 := by have := good0.add oT; exact this.more (by simp [oT, rowO, ObjM.vals])
theorem good2 : H2.Good 100 := by have := good1.add oL; exact this.more (by simp [oL, rowO, ObjM.vals])
theorem kL : H2.kind rL = 1 := by decide
theorem kT : H2.kind rT = 2 := by decide
theorem iL : H2.items rL = [v1, vT, rT] := by rfl
theorem iT : H2.items rT = [sA] := by rfl
theorem wL : H2.wholeB rL = true := by decide
theorem wT : H2.wholeB rT = true := by decide
theorem w1 : H2.wholeB v1 = false := by decide
theorem wV : H2.wholeB vT = false := by decide
theorem wA : H2.wholeB sA = false := by decide
theorem p1 : H2.plainL v1 = [49] := by
  show textN 1 = [49]
  simp [textN, digitsU, Nat.toUInt8]
  try decide
theorem pV : H2.plainL vT = [84, 114, 117, 101] := by rfl
theorem pA : H2.plainL sA = [39, 97, 39] := by rfl
theorem tS (f : Nat) (v : V) (hw : H2.wholeB v = false) (l : List UInt8) : H2.tellF f v ⟨l, .no⟩ = TelM.say ⟨l, .no⟩ (H2.plainL v) := by
  cases f <;> simp [HeapM.tellF, HeapM.tellT, hw]
theorem tT (f : Nat) (l : List UInt8) : H2.tellF (f + 1) rT ⟨l, .no⟩ = rowF [40] [44, 41] [fun t => H2.tellF f sA t] ⟨l, .no⟩ := by
  simp [HeapM.tellF, HeapM.tellT, wT, kT, iT]
theorem tL (f : Nat) (l : List UInt8) : H2.tellF (f + 1) rL ⟨l, .no⟩ = rowF [91] [93] [fun t => H2.tellF f v1 t, fun t => H2.tellF f vT t, fun t => H2.tellF f rT t] ⟨l, .no⟩ := by
  simp [HeapM.tellF, HeapM.tellT, wL, kL, iL]
theorem told : H2.reprM rL = ⟨[91, 49, 44, 32, 84, 114, 117, 101, 44, 32, 40, 39, 97, 39, 44, 41, 93], .no⟩ := by
  have h : ∀ l, H2.tellF 29 rT ⟨l, .no⟩ = rowF [40] [44, 41] [fun t => H2.tellF 28 sA t] ⟨l, .no⟩ := tT 28
  show H2.tellF (29 + 1) rL ⟨[], .no⟩ = _
  rw [tL]
  simp [rowF, partsF, TelM.say, tS _ v1 w1, tS _ vT wV, tS _ sA wA, h, p1, pV, pA]
def P (v : V) : Prop := v = rL ∨ v = rT ∨ v = v1 ∨ v = vT ∨ v = sA
theorem pairs_nil (v : V) : H2.pairs v = [] := by
  unfold HeapM.pairs
  cases g : H2.of v with
  | none => rfl
  | some o =>
    have := getL_mem (HeapM.of_some g).2
    simp [H2, H1, H0, HeapM.add, oT, oL] at this
    rcases this with ⟨_, rfl⟩ | ⟨_, rfl⟩ <;> rfl
end KO16
end Go.Proofs.YtellmfimmghidaaGreat
/- ch 16's example: the walk. -/
namespace Go.Proofs.YtellmfimmghidaaGreat
set_option linter.unusedSimpArgs false
open Go.RowKit
set_option linter.unusedVariables false
section
variable {w W : World} {Rs : List Res}
theorem seesRow {W : World} {g : Nat} {l : List V} {cs : Array Value} {t : TypeId} (hb : W.heap[g]? = some (.cells cs t)) (hl : l.length ≤ 1000) (hc : ∀ i v, l[i]? = some v → cs[i * 3]? = some (.int .i64 v.kind) ∧ cs[i * 3 + 1]? = some (.int .i64 v.n) ∧ cs[i * 3 + 2]? = some (.string v.s)) : SeesV W (.slice (some ⟨g, 0, none⟩) l.length l.length) l := by
  refine ⟨_, _, rfl, Nat.le_refl _, by unfold maxLen; omega, .inr ⟨g, 0, rfl, fun i v hv => ?_⟩⟩
  obtain ⟨a1, a2, a3⟩ := hc i v hv
  exact ⟨by simpa using cellAt hb (i * 3) a1, by simpa using cellAt hb (i * 3 + 1) a2, by simpa using cellAt hb (i * 3 + 2) a3⟩
set_option maxRecDepth 100000 in
set_option maxHeartbeats 12800000 in
theorem shown_ok (S : Sep w Rs W) : Calls Tryz.prog 14 #[] W fun e W' => e = .returned (.bool true) ∧ Sep w Rs W' := by
  have M := Lib.hid S.new
  clear S
  go_enter Tryz.func14, Tryz.ntmps14
  go_wp2_with fail
  refine M.out.mono ?_
  rintro e w1 ⟨h, rfl, S, -⟩
  clear M
  replace S : Sep w (heapR h KO16.H0 :: Rs) _ := S
  have M := Lib.hid (((lstr_ok w1 ⟨#[97]⟩).mono fun e W1 (hh : _ ∧ _) => (⟨hh.1, S.later hh.2⟩ : _ ∧ Sep w (heapR h KO16.H0 :: Rs) W1)))
  clear S
  go_wp2_with fail
  refine M.out.mono ?_
  rintro e w2 ⟨rfl, S⟩
  clear M
  obtain ⟨qa, hqa⟩ : ∃ gx_, (w2.heap.size) = gx_ := ⟨_, rfl⟩
  replace S := (S.alloc (.cells #[.int .i64 3, .int .i64 0, .string ⟨#[97]⟩] 29))
  simp only [World.size_alloc, hqa] at S
  replace S : Sep w (boxW qa 3 0 ⟨#[97]⟩ :: heapR h KO16.H0 :: Rs) _ := S
  have MK : Calls Tryz.prog 22 #[.pointer (some ⟨h, 0, none⟩), .int .i64 2, .string ⟨#[]⟩, .int .i64 0, .slice (some ⟨qa, 0, none⟩) 1 1] (w2.alloc (.cells #[.int .i64 3, .int .i64 0, .string ⟨#[97]⟩] 29)) fun e W' => e = .returned (.agg #[.int .i64 4, .int .i64 1, .string ⟨#[]⟩]) ∧ Sep w (boxW qa 3 0 ⟨#[97]⟩ :: heapR h KO16.H1 :: Rs) W' := S.make 1 rfl KO16.good0 (by omega) KO16.oT (.slice (some ⟨qa, 0, none⟩) 1 1) (seesRow (l := [KO16.sA]) (S.box (b := qa) 0 rfl) (by simp) (fun i v hv => by match i, hv with | 0, hv => (simp at hv; subst hv; exact ⟨rfl, rfl, rfl⟩) | i + 1, hv => simp at hv)) (by simp [KO16.oT, rowO]) rfl (by simp [KO16.oT, rowO]) (by simp [KO16.oT, rowO])
  have M := Lib.hid (MK)
  clear S
  go_wp2_with fail
  try simp only [hqa]
  refine M.out.mono ?_
  rintro e w3 ⟨rfl, S⟩
  clear M hqa
  replace S : Sep w (boxW qa 3 0 ⟨#[97]⟩ :: heapR h KO16.H1 :: Rs) _ := S
  obtain ⟨q2, hq2⟩ : ∃ gx_, (w3.heap.size) = gx_ := ⟨_, rfl⟩
  replace S := (S.alloc (.cells #[.int .i64 4, .int .i64 1, .string ⟨#[]⟩] 29))
  simp only [World.size_alloc, hq2] at S
  replace S : Sep w (boxW q2 4 1 ⟨#[]⟩ :: boxW qa 3 0 ⟨#[97]⟩ :: heapR h KO16.H1 :: Rs) _ := S
  clear MK
  refine named (boxW q2 4 1 ⟨#[]⟩ :: boxW qa 3 0 ⟨#[97]⟩ :: heapR h KO16.H1 :: Rs) fun baseA hbaseA => ?_
  have HbaseA := Lib.hid hbaseA
  have KbaseA := baseC3 (w := w) (b := q2) hbaseA 0 rfl
  refine named (boxW q2 4 1 ⟨#[]⟩ :: boxW qa 3 0 ⟨#[97]⟩ :: heapR h KO16.H2 :: Rs) fun baseB hbaseB => ?_
  have HbaseB := Lib.hid hbaseB
  have KbaseB := baseC3 (w := w) (b := q2) hbaseB 0 rfl
  have KN : KC w baseA 16 #[.int .i64 1] (.agg #[.int .i64 2, .int .i64 1, .string ⟨#[]⟩]) := Lib.hid fun W Q T => by
    exact (lnum_ok W 1).mono fun e W' ⟨e1, e2⟩ => ⟨e1, T.later e2⟩
  have KYs : KC w baseA 20 #[.bool true] (.agg #[.int .i64 1, .int .i64 1, .string ⟨#[]⟩]) := Lib.hid fun W Q T => by
    exact (lyes_ok W true).mono fun e W' ⟨e1, e2⟩ => ⟨e1, T.later e2⟩
  have KM : Hid (∀ W (Q : List Res) (q j : Nat) (hj : Q[j]? = some (boxR q (.cells #[.int .i64 2, .int .i64 1, .string ⟨#[]⟩, .int .i64 1, .int .i64 1, .string ⟨#[]⟩, .int .i64 4, .int .i64 1, .string ⟨#[]⟩] 29))), Sep w (Q ++ baseA) W → Calls Tryz.prog 22 #[.pointer (some ⟨h, 0, none⟩), .int .i64 1, .string ⟨#[]⟩, .int .i64 0, .slice (some ⟨q, 0, none⟩) 3 3] W fun e W' => e = .returned (.agg #[.int .i64 4, .int .i64 2, .string ⟨#[]⟩]) ∧ Sep w (Q ++ baseB) W') := Lib.hid fun W Q q j hj T => by
    rw [HbaseA.out] at T
    rw [HbaseB.out]
    have hh := T.make (Q.length + 2) (atR rfl) KO16.good1 (by omega) KO16.oL (.slice (some ⟨q, 0, none⟩) 3 3) (seesRow (l := [KO16.v1, KO16.vT, KO16.rT]) (T.box (b := q) j (by rw [List.getElem?_append_left (List.getElem?_eq_some_iff.1 hj).1]; exact hj)) (by simp) (fun i v hv => by match i, hv with | 0, hv => (simp at hv; subst hv; exact ⟨rfl, rfl, rfl⟩) | 1, hv => (simp at hv; subst hv; exact ⟨rfl, rfl, rfl⟩) | 2, hv => (simp at hv; subst hv; exact ⟨rfl, rfl, rfl⟩) | i + 3, hv => simp at hv)) (by simp [KO16.oL, rowO]) rfl (by simp [KO16.oL, rowO]) (by simp [KO16.oL, rowO])
    rw [List.set_append_right _ _ (by omega), Nat.add_sub_cancel_left] at hh
    exact hh
  replace S : Sep w (baseA) (w3.alloc (.cells #[.int .i64 4, .int .i64 1, .string ⟨#[]⟩] 29)) := by rw [hbaseA]; exact S
  replace S := Lib.hid S
  clear hbaseA hbaseB
  go_upto_region 5 with fail
  try simp only [hq2]
  obtain ⟨Wd5, hW⟩ : ∃ gx_, ((w3.alloc (.cells #[.int .i64 4, .int .i64 1, .string ⟨#[]⟩] 29))) = gx_ := ⟨_, rfl⟩
  rw [hW] at S ⊢
  clear hW hq2
  go_cut [3] (fun s3 wx => ∃ (Q : List Res) (i : Nat) (q : Nat), s3 = .pointer (some ⟨q, 0, none⟩) ∧ Q[i]? = some (boxW q 4 2 ⟨#[]⟩) ∧ Sep w (Q ++ baseB) wx)
  case first =>
    have T0 : Sep w ([] ++ baseA) _ := S.out.drew
    clear S
    refine wp_region_held_drew (S := fun W => W.cell? ⟨q2, 0, none⟩ = some (.int .i64 4) ∧ W.cell? ⟨q2, 1, none⟩ = some (.int .i64 1) ∧ W.cell? ⟨q2, 2, none⟩ = some (.string ⟨#[]⟩)) (by kernel_rfl) (KbaseA.out _ [] T0) (fun hH => ?_)
    refine takeT 0 hH (hy := .inl ⟨by rfl, by (intro w hSw; try obtain ⟨u0, u1, u2⟩ := hSw); (go_simp; try rfl)⟩) (h := ?_)
    simp only [pu]
    refine takeT 3 hH (hy := .inl ⟨by rfl, by (intro w hSw; try obtain ⟨u0, u1, u2⟩ := hSw); (go_simp; try rfl)⟩) (h := ?_)
    simp only [pu]
    refine readyT [1, 6] ?_
    refine consT (fun K hK => ?_) (consT (fun K hK => ?_) AllReadyH.nil)
    · go_simp
      go_wp2_with (go_at_call 16; refine (KN.out _ [] T0).mono ?_; rintro e w1 ⟨rfl, T1⟩)
      clear hH
      refine hK.out _ _ (KbaseA.out _ [] T1) (fun hH => ?_)
      clear hK K
      refine readyT [2, 6] ?_
      refine consT (fun K hK => ?_) (consT (fun K hK => ?_) AllReadyH.nil)
      · go_simp
        go_wp2_with (go_at_call 20; refine (KYs.out _ [] T1).mono ?_; rintro e w2 ⟨rfl, T2⟩)
        clear hH
        refine hK.out _ _ (KbaseA.out _ [] T2) (fun hH => ?_)
        clear hK K
        refine readyT [4, 6] ?_
        refine consT (fun K hK => ?_) (consT (fun K hK => ?_) AllReadyH.nil)
        · go_simp
          have T3 : Sep w ([boxR _ (.cells #[.int .i64 2, .int .i64 1, .string ⟨#[]⟩, .int .i64 1, .int .i64 1, .string ⟨#[]⟩, .int .i64 4, .int .i64 1, .string ⟨#[]⟩] 29)] ++ baseA) _ := Sep.alloc T2 (.cells #[.int .i64 2, .int .i64 1, .string ⟨#[]⟩, .int .i64 1, .int .i64 1, .string ⟨#[]⟩, .int .i64 4, .int .i64 1, .string ⟨#[]⟩] 29)
          try simp only [size_drew, World.size_alloc] at T3
          clear hH
          refine hK.out _ _ (KbaseA.out _ [_] T3) (fun hH => ?_)
          clear hK K
          refine readyT [5, 6] ?_
          refine consT (fun K hK => ?_) (consT (fun K hK => ?_) AllReadyH.nil)
          · go_simp
            go_wp2_with (go_at_call 22; refine (KM.out _ [_] _ 0 rfl T3).mono ?_; rintro e w4 ⟨rfl, T4⟩)
            clear hH
            refine hK.out _ _ (KbaseB.out _ [_] T4) (fun hH => ?_)
            clear hK K
            refine readyT [6] ?_
            refine consT (fun K hK => ?_) AllReadyH.nil
            go_simp
            have T5 : Sep w ([boxZ _, boxR _ (.cells #[.int .i64 2, .int .i64 1, .string ⟨#[]⟩, .int .i64 1, .int .i64 1, .string ⟨#[]⟩, .int .i64 4, .int .i64 1, .string ⟨#[]⟩] 29)] ++ baseB) _ := Sep.alloc T4 (.cells #[.int .i64 0, .int .i64 0, .string ⟨#[]⟩] 29)
            try simp only [size_drew, World.size_alloc] at T5
            clear hH
            refine hK.out _ _ (KbaseB.out _ [_, _] T5) (fun hH => ?_)
            clear hK K
            refine readyT [7] ?_
            refine consT (fun K hK => ?_) AllReadyH.nil
            have hz := T5.box 0 rfl
            have z0 := cellAt hz 0 (v := .int .i64 0) rfl
            have z1 := cellAt hz 1 (v := .int .i64 0) rfl
            have z2 := cellAt hz 2 (v := .string ⟨#[]⟩) rfl
            have z3 := frozenAt hz 0
            have z4 := frozenAt hz 1
            have z5 := frozenAt hz 2
            try simp only [World.cell?_drew, World.frozen?_drew] at z0 z1 z2 z3 z4 z5
            go_simp
            clear hz z0 z1 z2 z3 z4 z5
            clear hH
            first | (have T6 : Sep w ([boxW _ 4 2 ⟨#[]⟩, boxR _ (.cells #[.int .i64 2, .int .i64 1, .string ⟨#[]⟩, .int .i64 1, .int .i64 1, .string ⟨#[]⟩, .int .i64 4, .int .i64 1, .string ⟨#[]⟩] 29)] ++ baseB) _ := (Sep.alloc T4 (.cells #[.int .i64 4, .int .i64 2, .string ⟨#[]⟩] 29)); (try simp only [size_drew, World.size_alloc] at T6); refine hK.out _ _ (KbaseB.out _ [_, _] T6) (fun hH => ?_)) | (have T6 : Sep w ([boxW _ 4 2 ⟨#[]⟩, boxR _ (.cells #[.int .i64 2, .int .i64 1, .string ⟨#[]⟩, .int .i64 1, .int .i64 1, .string ⟨#[]⟩, .int .i64 4, .int .i64 1, .string ⟨#[]⟩] 29)] ++ baseB) _ := (Sep.setBox (cs := #[.int .i64 4, .int .i64 2, .string ⟨#[]⟩]) (t := 29) (Sep.setBox (cs := #[.int .i64 4, .int .i64 0, .string ⟨#[]⟩]) (t := 29) (Sep.setBox (cs := #[.int .i64 0, .int .i64 0, .string ⟨#[]⟩]) (t := 29) T5 0 rfl 0 (.int .i64 4)) 0 rfl 1 (.int .i64 2)) 0 rfl 2 (.string ⟨#[]⟩)); (try simp only [size_drew, World.size_alloc] at T6); refine hK.out _ _ (KbaseB.out _ [_, _] T6) (fun hH => ?_))
            clear hK K
            refine wpAnyH_done (by kernel_rfl) ?_ _
            as_aux_lemma =>
              go_wp2_with fail
              go_meet
              exact ⟨[_, _], 0, _, rfl, rfl, T6⟩
          · go_simp
            have T7 : Sep w ([boxZ _, boxR _ (.cells #[.int .i64 2, .int .i64 1, .string ⟨#[]⟩, .int .i64 1, .int .i64 1, .string ⟨#[]⟩, .int .i64 4, .int .i64 1, .string ⟨#[]⟩] 29)] ++ baseA) _ := Sep.alloc T3 (.cells #[.int .i64 0, .int .i64 0, .string ⟨#[]⟩] 29)
            try simp only [size_drew, World.size_alloc] at T7
            clear hH
            refine hK.out _ _ (KbaseA.out _ [_, _] T7) (fun hH => ?_)
            clear hK K
            refine readyT [5] ?_
            refine consT (fun K hK => ?_) AllReadyH.nil
            go_simp
            go_wp2_with (go_at_call 22; refine (KM.out _ [_, _] _ 1 rfl T7).mono ?_; rintro e w8 ⟨rfl, T8⟩)
            clear hH
            refine hK.out _ _ (KbaseB.out _ [_, _] T8) (fun hH => ?_)
            clear hK K
            refine readyT [7] ?_
            refine consT (fun K hK => ?_) AllReadyH.nil
            have hz := T8.box 0 rfl
            have z0 := cellAt hz 0 (v := .int .i64 0) rfl
            have z1 := cellAt hz 1 (v := .int .i64 0) rfl
            have z2 := cellAt hz 2 (v := .string ⟨#[]⟩) rfl
            have z3 := frozenAt hz 0
            have z4 := frozenAt hz 1
            have z5 := frozenAt hz 2
            try simp only [World.cell?_drew, World.frozen?_drew] at z0 z1 z2 z3 z4 z5
            go_simp
            clear hz z0 z1 z2 z3 z4 z5
            clear hH
            have T9 : Sep w ([boxW _ 4 2 ⟨#[]⟩, boxR _ (.cells #[.int .i64 2, .int .i64 1, .string ⟨#[]⟩, .int .i64 1, .int .i64 1, .string ⟨#[]⟩, .int .i64 4, .int .i64 1, .string ⟨#[]⟩] 29)] ++ baseB) _ := (Sep.setBox (cs := #[.int .i64 4, .int .i64 2, .string ⟨#[]⟩]) (t := 29) (Sep.setBox (cs := #[.int .i64 4, .int .i64 0, .string ⟨#[]⟩]) (t := 29) (Sep.setBox (cs := #[.int .i64 0, .int .i64 0, .string ⟨#[]⟩]) (t := 29) T8 0 rfl 0 (.int .i64 4)) 0 rfl 1 (.int .i64 2)) 0 rfl 2 (.string ⟨#[]⟩))
            try simp only [size_drew, World.size_alloc] at T9
            refine hK.out _ _ (KbaseB.out _ [_, _] T9) (fun hH => ?_)
            clear hK K
            refine wpAnyH_done (by kernel_rfl) ?_ _
            as_aux_lemma =>
              go_wp2_with fail
              go_meet
              exact ⟨[_, _], 0, _, rfl, rfl, T9⟩
        · go_simp
          have T10 : Sep w ([boxZ _] ++ baseA) _ := Sep.alloc T2 (.cells #[.int .i64 0, .int .i64 0, .string ⟨#[]⟩] 29)
          try simp only [size_drew, World.size_alloc] at T10
          clear hH
          refine hK.out _ _ (KbaseA.out _ [_] T10) (fun hH => ?_)
          clear hK K
          refine readyT [4] ?_
          refine consT (fun K hK => ?_) AllReadyH.nil
          go_simp
          have T11 : Sep w ([boxR _ (.cells #[.int .i64 2, .int .i64 1, .string ⟨#[]⟩, .int .i64 1, .int .i64 1, .string ⟨#[]⟩, .int .i64 4, .int .i64 1, .string ⟨#[]⟩] 29), boxZ _] ++ baseA) _ := Sep.alloc T10 (.cells #[.int .i64 2, .int .i64 1, .string ⟨#[]⟩, .int .i64 1, .int .i64 1, .string ⟨#[]⟩, .int .i64 4, .int .i64 1, .string ⟨#[]⟩] 29)
          try simp only [size_drew, World.size_alloc] at T11
          clear hH
          refine hK.out _ _ (KbaseA.out _ [_, _] T11) (fun hH => ?_)
          clear hK K
          refine readyT [5] ?_
          refine consT (fun K hK => ?_) AllReadyH.nil
          go_simp
          go_wp2_with (go_at_call 22; refine (KM.out _ [_, _] _ 0 rfl T11).mono ?_; rintro e w12 ⟨rfl, T12⟩)
          clear hH
          refine hK.out _ _ (KbaseB.out _ [_, _] T12) (fun hH => ?_)
          clear hK K
          refine readyT [7] ?_
          refine consT (fun K hK => ?_) AllReadyH.nil
          have hz := T12.box 1 rfl
          have z0 := cellAt hz 0 (v := .int .i64 0) rfl
          have z1 := cellAt hz 1 (v := .int .i64 0) rfl
          have z2 := cellAt hz 2 (v := .string ⟨#[]⟩) rfl
          have z3 := frozenAt hz 0
          have z4 := frozenAt hz 1
          have z5 := frozenAt hz 2
          try simp only [World.cell?_drew, World.frozen?_drew] at z0 z1 z2 z3 z4 z5
          go_simp
          clear hz z0 z1 z2 z3 z4 z5
          clear hH
          have T13 : Sep w ([boxR _ (.cells #[.int .i64 2, .int .i64 1, .string ⟨#[]⟩, .int .i64 1, .int .i64 1, .string ⟨#[]⟩, .int .i64 4, .int .i64 1, .string ⟨#[]⟩] 29), boxW _ 4 2 ⟨#[]⟩] ++ baseB) _ := (Sep.setBox (cs := #[.int .i64 4, .int .i64 2, .string ⟨#[]⟩]) (t := 29) (Sep.setBox (cs := #[.int .i64 4, .int .i64 0, .string ⟨#[]⟩]) (t := 29) (Sep.setBox (cs := #[.int .i64 0, .int .i64 0, .string ⟨#[]⟩]) (t := 29) T12 1 rfl 0 (.int .i64 4)) 1 rfl 1 (.int .i64 2)) 1 rfl 2 (.string ⟨#[]⟩))
          try simp only [size_drew, World.size_alloc] at T13
          refine hK.out _ _ (KbaseB.out _ [_, _] T13) (fun hH => ?_)
          clear hK K
          refine wpAnyH_done (by kernel_rfl) ?_ _
          as_aux_lemma =>
            go_wp2_with fail
            go_meet
            exact ⟨[_, _], 1, _, rfl, rfl, T13⟩
      · go_simp
        have T14 : Sep w ([boxZ _] ++ baseA) _ := Sep.alloc T1 (.cells #[.int .i64 0, .int .i64 0, .string ⟨#[]⟩] 29)
        try simp only [size_drew, World.size_alloc] at T14
        clear hH
        refine hK.out _ _ (KbaseA.out _ [_] T14) (fun hH => ?_)
        clear hK K
        refine readyT [2] ?_
        refine consT (fun K hK => ?_) AllReadyH.nil
        go_simp
        go_wp2_with (go_at_call 20; refine (KYs.out _ [_] T14).mono ?_; rintro e w15 ⟨rfl, T15⟩)
        clear hH
        refine hK.out _ _ (KbaseA.out _ [_] T15) (fun hH => ?_)
        clear hK K
        refine readyT [4] ?_
        refine consT (fun K hK => ?_) AllReadyH.nil
        go_simp
        have T16 : Sep w ([boxR _ (.cells #[.int .i64 2, .int .i64 1, .string ⟨#[]⟩, .int .i64 1, .int .i64 1, .string ⟨#[]⟩, .int .i64 4, .int .i64 1, .string ⟨#[]⟩] 29), boxZ _] ++ baseA) _ := Sep.alloc T15 (.cells #[.int .i64 2, .int .i64 1, .string ⟨#[]⟩, .int .i64 1, .int .i64 1, .string ⟨#[]⟩, .int .i64 4, .int .i64 1, .string ⟨#[]⟩] 29)
        try simp only [size_drew, World.size_alloc] at T16
        clear hH
        refine hK.out _ _ (KbaseA.out _ [_, _] T16) (fun hH => ?_)
        clear hK K
        refine readyT [5] ?_
        refine consT (fun K hK => ?_) AllReadyH.nil
        go_simp
        go_wp2_with (go_at_call 22; refine (KM.out _ [_, _] _ 0 rfl T16).mono ?_; rintro e w17 ⟨rfl, T17⟩)
        clear hH
        refine hK.out _ _ (KbaseB.out _ [_, _] T17) (fun hH => ?_)
        clear hK K
        refine readyT [7] ?_
        refine consT (fun K hK => ?_) AllReadyH.nil
        have hz := T17.box 1 rfl
        have z0 := cellAt hz 0 (v := .int .i64 0) rfl
        have z1 := cellAt hz 1 (v := .int .i64 0) rfl
        have z2 := cellAt hz 2 (v := .string ⟨#[]⟩) rfl
        have z3 := frozenAt hz 0
        have z4 := frozenAt hz 1
        have z5 := frozenAt hz 2
        try simp only [World.cell?_drew, World.frozen?_drew] at z0 z1 z2 z3 z4 z5
        go_simp
        clear hz z0 z1 z2 z3 z4 z5
        clear hH
        have T18 : Sep w ([boxR _ (.cells #[.int .i64 2, .int .i64 1, .string ⟨#[]⟩, .int .i64 1, .int .i64 1, .string ⟨#[]⟩, .int .i64 4, .int .i64 1, .string ⟨#[]⟩] 29), boxW _ 4 2 ⟨#[]⟩] ++ baseB) _ := (Sep.setBox (cs := #[.int .i64 4, .int .i64 2, .string ⟨#[]⟩]) (t := 29) (Sep.setBox (cs := #[.int .i64 4, .int .i64 0, .string ⟨#[]⟩]) (t := 29) (Sep.setBox (cs := #[.int .i64 0, .int .i64 0, .string ⟨#[]⟩]) (t := 29) T17 1 rfl 0 (.int .i64 4)) 1 rfl 1 (.int .i64 2)) 1 rfl 2 (.string ⟨#[]⟩))
        try simp only [size_drew, World.size_alloc] at T18
        refine hK.out _ _ (KbaseB.out _ [_, _] T18) (fun hH => ?_)
        clear hK K
        refine wpAnyH_done (by kernel_rfl) ?_ _
        as_aux_lemma =>
          go_wp2_with fail
          go_meet
          exact ⟨[_, _], 1, _, rfl, rfl, T18⟩
    · go_simp
      have T19 : Sep w ([boxZ _] ++ baseA) _ := Sep.alloc T0 (.cells #[.int .i64 0, .int .i64 0, .string ⟨#[]⟩] 29)
      try simp only [size_drew, World.size_alloc] at T19
      clear hH
      refine hK.out _ _ (KbaseA.out _ [_] T19) (fun hH => ?_)
      clear hK K
      refine readyT [1] ?_
      refine consT (fun K hK => ?_) AllReadyH.nil
      go_simp
      go_wp2_with (go_at_call 16; refine (KN.out _ [_] T19).mono ?_; rintro e w20 ⟨rfl, T20⟩)
      clear hH
      refine hK.out _ _ (KbaseA.out _ [_] T20) (fun hH => ?_)
      clear hK K
      refine readyT [2] ?_
      refine consT (fun K hK => ?_) AllReadyH.nil
      go_simp
      go_wp2_with (go_at_call 20; refine (KYs.out _ [_] T20).mono ?_; rintro e w21 ⟨rfl, T21⟩)
      clear hH
      refine hK.out _ _ (KbaseA.out _ [_] T21) (fun hH => ?_)
      clear hK K
      refine readyT [4] ?_
      refine consT (fun K hK => ?_) AllReadyH.nil
      go_simp
      have T22 : Sep w ([boxR _ (.cells #[.int .i64 2, .int .i64 1, .string ⟨#[]⟩, .int .i64 1, .int .i64 1, .string ⟨#[]⟩, .int .i64 4, .int .i64 1, .string ⟨#[]⟩] 29), boxZ _] ++ baseA) _ := Sep.alloc T21 (.cells #[.int .i64 2, .int .i64 1, .string ⟨#[]⟩, .int .i64 1, .int .i64 1, .string ⟨#[]⟩, .int .i64 4, .int .i64 1, .string ⟨#[]⟩] 29)
      try simp only [size_drew, World.size_alloc] at T22
      clear hH
      refine hK.out _ _ (KbaseA.out _ [_, _] T22) (fun hH => ?_)
      clear hK K
      refine readyT [5] ?_
      refine consT (fun K hK => ?_) AllReadyH.nil
      go_simp
      go_wp2_with (go_at_call 22; refine (KM.out _ [_, _] _ 0 rfl T22).mono ?_; rintro e w23 ⟨rfl, T23⟩)
      clear hH
      refine hK.out _ _ (KbaseB.out _ [_, _] T23) (fun hH => ?_)
      clear hK K
      refine readyT [7] ?_
      refine consT (fun K hK => ?_) AllReadyH.nil
      have hz := T23.box 1 rfl
      have z0 := cellAt hz 0 (v := .int .i64 0) rfl
      have z1 := cellAt hz 1 (v := .int .i64 0) rfl
      have z2 := cellAt hz 2 (v := .string ⟨#[]⟩) rfl
      have z3 := frozenAt hz 0
      have z4 := frozenAt hz 1
      have z5 := frozenAt hz 2
      try simp only [World.cell?_drew, World.frozen?_drew] at z0 z1 z2 z3 z4 z5
      go_simp
      clear hz z0 z1 z2 z3 z4 z5
      clear hH
      have T24 : Sep w ([boxR _ (.cells #[.int .i64 2, .int .i64 1, .string ⟨#[]⟩, .int .i64 1, .int .i64 1, .string ⟨#[]⟩, .int .i64 4, .int .i64 1, .string ⟨#[]⟩] 29), boxW _ 4 2 ⟨#[]⟩] ++ baseB) _ := (Sep.setBox (cs := #[.int .i64 4, .int .i64 2, .string ⟨#[]⟩]) (t := 29) (Sep.setBox (cs := #[.int .i64 4, .int .i64 0, .string ⟨#[]⟩]) (t := 29) (Sep.setBox (cs := #[.int .i64 0, .int .i64 0, .string ⟨#[]⟩]) (t := 29) T23 1 rfl 0 (.int .i64 4)) 1 rfl 1 (.int .i64 2)) 1 rfl 2 (.string ⟨#[]⟩))
      try simp only [size_drew, World.size_alloc] at T24
      refine hK.out _ _ (KbaseB.out _ [_, _] T24) (fun hH => ?_)
      clear hK K
      refine wpAnyH_done (by kernel_rfl) ?_ _
      as_aux_lemma =>
        go_wp2_with fail
        go_meet
        exact ⟨[_, _], 1, _, rfl, rfl, T24⟩
  case rest =>
    obtain ⟨Q, i9, q3, rfl, h9, T⟩ := hcut
    have S := T.sub (Qs := [boxW q3 4 2 ⟨#[]⟩] ++ baseB) (List.Sublist.append (List.singleton_sublist.2 (List.mem_of_getElem? h9)) (List.Sublist.refl _))
    rw [HbaseB.out] at S
    clear T h9 KN KYs KM KbaseA KbaseB HbaseA HbaseB
    replace S : Sep w (boxW q3 4 2 ⟨#[]⟩ :: boxW q2 4 1 ⟨#[]⟩ :: boxW qa 3 0 ⟨#[97]⟩ :: heapR h KO16.H2 :: Rs) _ := S
    have MR : Calls Tryz.prog 25 #[.pointer (some ⟨h, 0, none⟩), .agg #[.int .i64 4, .int .i64 2, .string ⟨#[]⟩]] wc fun e W' => e = .returned (.tuple #[.string ⟨#[91, 49, 44, 32, 84, 114, 117, 101, 44, 32, 40, 39, 97, 39, 44, 41, 93]⟩, excZ]) ∧ Sep w (boxW q3 4 2 ⟨#[]⟩ :: boxW q2 4 1 ⟨#[]⟩ :: boxW qa 3 0 ⟨#[97]⟩ :: heapR h KO16.H2 :: Rs) W' := by
      have hh := repr_ok KO16.good2 (by decide) (plainAt (P := KO16.P) (fun v hv hw => by
        rcases hv with rfl | rfl | rfl | rfl | rfl
        · rw [KO16.wL] at hw; cases hw
        · rw [KO16.wT] at hw; cases hw
        · exact ⟨.inr (.inr (.inl rfl)), by decide⟩
        · exact ⟨.inr (.inl rfl), by decide⟩
        · exact ⟨.inr (.inr (.inr rfl)), by decide⟩)) (fun v x hv hx => by
        rcases hv with rfl | rfl | rfl | rfl | rfl
        · rw [KO16.iL] at hx
          simp at hx
          rcases hx with rfl | rfl | rfl
          · exact .inr (.inr (.inl rfl))
          · exact .inr (.inr (.inr (.inl rfl)))
          · exact .inr (.inl rfl)
        · rw [KO16.iT] at hx
          simp at hx; subst hx
          exact .inr (.inr (.inr (.inr rfl)))
        · rw [show KO16.H2.items KO16.v1 = [] from rfl] at hx; cases hx
        · rw [show KO16.H2.items KO16.vT = [] from rfl] at hx; cases hx
        · rw [show KO16.H2.items KO16.sA = [] from rfl] at hx; cases hx) (fun v p hv hp => by rw [KO16.pairs_nil] at hp; cases hp) S 3 rfl KO16.rL (.inl rfl)
      rw [KO16.told] at hh
      exact hh
    refine useR3 (S.box (b := q3) (o := objW 4 2 ⟨#[]⟩) 0 rfl) fun d0 d1 d2 => ?_
    have M := Lib.hid (MR)
    clear S
    go_wp2_with fail
    refine M.out.mono ?_
    rintro e w4 ⟨rfl, S⟩
    clear M d0 d1 d2
    replace S : Sep w (boxW q3 4 2 ⟨#[]⟩ :: boxW q2 4 1 ⟨#[]⟩ :: boxW qa 3 0 ⟨#[97]⟩ :: heapR h KO16.H2 :: Rs) _ := S
    clear MR
    obtain ⟨q5, hq5⟩ : ∃ gx_, (w4.heap.size) = gx_ := ⟨_, rfl⟩
    replace S := (S.alloc (.cells #[.string ⟨#[]⟩, .int .i64 0, .int .i64 0, .string ⟨#[]⟩, .bool false] 38))
    simp only [World.size_alloc, hq5] at S
    replace S : Sep w (boxE q5 :: boxW q3 4 2 ⟨#[]⟩ :: boxW q2 4 1 ⟨#[]⟩ :: boxW qa 3 0 ⟨#[97]⟩ :: heapR h KO16.H2 :: Rs) _ := S
    have M := Lib.hid (((lnum_ok _ 1).mono fun e W1 (hh : _ ∧ _) => (⟨hh.1, S.later hh.2⟩ : _ ∧ Sep w (boxE q5 :: boxW q3 4 2 ⟨#[]⟩ :: boxW q2 4 1 ⟨#[]⟩ :: boxW qa 3 0 ⟨#[97]⟩ :: heapR h KO16.H2 :: Rs) W1)))
    clear S
    go_wp2_with fail
    try simp only [hq5]
    refine M.out.mono ?_
    rintro e w5 ⟨rfl, S⟩
    clear M hq5
    replace S : Sep w (boxE q5 :: boxW q3 4 2 ⟨#[]⟩ :: boxW q2 4 1 ⟨#[]⟩ :: boxW qa 3 0 ⟨#[97]⟩ :: heapR h KO16.H2 :: Rs) _ := S
    have M := Lib.hid ((((lyes_ok _ true).mono fun e W1 (hh : _ ∧ _) => (⟨hh.1, S.later hh.2⟩ : _ ∧ Sep w (boxE q5 :: boxW q3 4 2 ⟨#[]⟩ :: boxW q2 4 1 ⟨#[]⟩ :: boxW qa 3 0 ⟨#[97]⟩ :: heapR h KO16.H2 :: Rs) W1)) : Calls Tryz.prog 20 #[.bool true] _ fun e W1 => e = .returned (.agg #[.int .i64 1, .int .i64 1, .string ⟨#[]⟩]) ∧ Sep w (boxE q5 :: boxW q3 4 2 ⟨#[]⟩ :: boxW q2 4 1 ⟨#[]⟩ :: boxW qa 3 0 ⟨#[97]⟩ :: heapR h KO16.H2 :: Rs) W1))
    clear S
    go_wp2_with fail
    refine M.out.mono ?_
    rintro e w6 ⟨rfl, S⟩
    clear M
    replace S : Sep w (boxE q5 :: boxW q3 4 2 ⟨#[]⟩ :: boxW q2 4 1 ⟨#[]⟩ :: boxW qa 3 0 ⟨#[97]⟩ :: heapR h KO16.H2 :: Rs) _ := S
    have MC : Calls Tryz.prog 18 #[.pointer (some ⟨h, 0, none⟩), .string ⟨#[61, 61]⟩, .agg #[.int .i64 2, .int .i64 1, .string ⟨#[]⟩], .agg #[.int .i64 1, .int .i64 1, .string ⟨#[]⟩]] w6 fun e W' => e = .returned (.tuple #[.agg #[.int .i64 1, .int .i64 0, .string ⟨#[]⟩], excZ]) ∧ Sep w (boxE q5 :: boxW q3 4 2 ⟨#[]⟩ :: boxW q2 4 1 ⟨#[]⟩ :: boxW qa 3 0 ⟨#[97]⟩ :: heapR h KO16.H2 :: Rs) W' := cmp_same S 4 rfl ⟨#[61, 61]⟩ (by decide) false KO16.v1 KO16.vT (.ok false) (fun m => rfl) (fun i S hi => sameOp_ok KO16.good2 (by decide) i S hi KO16.v1 KO16.vT)
    have M := Lib.hid (MC)
    clear S
    go_wp2_with fail
    refine M.out.mono ?_
    rintro e w7 ⟨rfl, S⟩
    clear M
    replace S : Sep w (boxE q5 :: boxW q3 4 2 ⟨#[]⟩ :: boxW q2 4 1 ⟨#[]⟩ :: boxW qa 3 0 ⟨#[97]⟩ :: heapR h KO16.H2 :: Rs) _ := S
    clear MC
    obtain ⟨q6, hq6⟩ : ∃ gx_, (w7.heap.size) = gx_ := ⟨_, rfl⟩
    replace S := ((S.alloc (.cells #[.int .i64 1, .int .i64 0, .string ⟨#[]⟩] 29)).alloc (.cells #[.string ⟨#[]⟩, .int .i64 0, .int .i64 0, .string ⟨#[]⟩, .bool false] 38))
    simp only [World.size_alloc, hq6] at S
    replace S : Sep w (boxE (q6 + 1) :: boxW q6 1 0 ⟨#[]⟩ :: boxE q5 :: boxW q3 4 2 ⟨#[]⟩ :: boxW q2 4 1 ⟨#[]⟩ :: boxW qa 3 0 ⟨#[97]⟩ :: heapR h KO16.H2 :: Rs) _ := S
    have M := Lib.hid (((lnum_ok _ 1).mono fun e W1 (hh : _ ∧ _) => (⟨hh.1, S.later hh.2⟩ : _ ∧ Sep w (boxE (q6 + 1) :: boxW q6 1 0 ⟨#[]⟩ :: boxE q5 :: boxW q3 4 2 ⟨#[]⟩ :: boxW q2 4 1 ⟨#[]⟩ :: boxW qa 3 0 ⟨#[97]⟩ :: heapR h KO16.H2 :: Rs) W1)))
    clear S
    go_wp2_with fail
    try simp only [hq6]
    refine M.out.mono ?_
    rintro e w8 ⟨rfl, S⟩
    clear M hq6
    replace S : Sep w (boxE (q6 + 1) :: boxW q6 1 0 ⟨#[]⟩ :: boxE q5 :: boxW q3 4 2 ⟨#[]⟩ :: boxW q2 4 1 ⟨#[]⟩ :: boxW qa 3 0 ⟨#[97]⟩ :: heapR h KO16.H2 :: Rs) _ := S
    have M := Lib.hid ((((lyes_ok _ true).mono fun e W1 (hh : _ ∧ _) => (⟨hh.1, S.later hh.2⟩ : _ ∧ Sep w (boxE (q6 + 1) :: boxW q6 1 0 ⟨#[]⟩ :: boxE q5 :: boxW q3 4 2 ⟨#[]⟩ :: boxW q2 4 1 ⟨#[]⟩ :: boxW qa 3 0 ⟨#[97]⟩ :: heapR h KO16.H2 :: Rs) W1)) : Calls Tryz.prog 20 #[.bool true] _ fun e W1 => e = .returned (.agg #[.int .i64 1, .int .i64 1, .string ⟨#[]⟩]) ∧ Sep w (boxE (q6 + 1) :: boxW q6 1 0 ⟨#[]⟩ :: boxE q5 :: boxW q3 4 2 ⟨#[]⟩ :: boxW q2 4 1 ⟨#[]⟩ :: boxW qa 3 0 ⟨#[97]⟩ :: heapR h KO16.H2 :: Rs) W1))
    clear S
    go_wp2_with fail
    refine M.out.mono ?_
    rintro e w9 ⟨rfl, S⟩
    clear M
    replace S : Sep w (boxE (q6 + 1) :: boxW q6 1 0 ⟨#[]⟩ :: boxE q5 :: boxW q3 4 2 ⟨#[]⟩ :: boxW q2 4 1 ⟨#[]⟩ :: boxW qa 3 0 ⟨#[97]⟩ :: heapR h KO16.H2 :: Rs) _ := S
    have MB : Calls Tryz.prog 23 #[.pointer (some ⟨h, 0, none⟩), .string ⟨#[43]⟩, .agg #[.int .i64 2, .int .i64 1, .string ⟨#[]⟩], .agg #[.int .i64 1, .int .i64 1, .string ⟨#[]⟩]] w9 fun e W' => e = .returned (.tuple #[.agg #[.int .i64 0, .int .i64 0, .string ⟨#[]⟩], excN typeError]) ∧ Sep w (boxE (q6 + 1) :: boxW q6 1 0 ⟨#[]⟩ :: boxE q5 :: boxW q3 4 2 ⟨#[]⟩ :: boxW q2 4 1 ⟨#[]⟩ :: boxW qa 3 0 ⟨#[97]⟩ :: heapR h KO16.H2 :: Rs) W' := bin_add S ⟨#[43]⟩ (by decide) KO16.v1 KO16.vT (by decide) rfl 0 0 ⟨#[]⟩ typeError (fun Q W S => add_wrong S (Q.length + 6) (atR rfl) KO16.v1 KO16.vT (by decide) (by decide))
    have M := Lib.hid (MB)
    clear S
    go_wp2_with fail
    refine M.out.mono ?_
    rintro e w10 ⟨rfl, S⟩
    clear M
    replace S : Sep w (boxE (q6 + 1) :: boxW q6 1 0 ⟨#[]⟩ :: boxE q5 :: boxW q3 4 2 ⟨#[]⟩ :: boxW q2 4 1 ⟨#[]⟩ :: boxW qa 3 0 ⟨#[97]⟩ :: heapR h KO16.H2 :: Rs) _ := S
    clear MB
    obtain ⟨q8, hq8⟩ : ∃ gx_, (w10.heap.size) = gx_ := ⟨_, rfl⟩
    replace S := ((S.alloc (.cells #[.int .i64 0, .int .i64 0, .string ⟨#[]⟩] 29)).alloc (.cells #[.string typeError, .int .i64 0, .int .i64 0, .string ⟨#[]⟩, .bool false] 38))
    simp only [World.size_alloc, hq8] at S
    replace S : Sep w (boxN (q8 + 1) typeError :: boxZ q8 :: boxE (q6 + 1) :: boxW q6 1 0 ⟨#[]⟩ :: boxE q5 :: boxW q3 4 2 ⟨#[]⟩ :: boxW q2 4 1 ⟨#[]⟩ :: boxW qa 3 0 ⟨#[97]⟩ :: heapR h KO16.H2 :: Rs) _ := S
    have KZ : Hid (∀ W, Sep w (boxN (q8 + 1) typeError :: boxZ q8 :: boxE (q6 + 1) :: boxW q6 1 0 ⟨#[]⟩ :: boxE q5 :: boxW q3 4 2 ⟨#[]⟩ :: boxW q2 4 1 ⟨#[]⟩ :: boxW qa 3 0 ⟨#[97]⟩ :: heapR h KO16.H2 :: Rs) W → Calls Tryz.prog 19 #[excZ] W fun e W' => e = .returned (.bool true) ∧ Sep w (boxN (q8 + 1) typeError :: boxZ q8 :: boxE (q6 + 1) :: boxW q6 1 0 ⟨#[]⟩ :: boxE q5 :: boxW q3 4 2 ⟨#[]⟩ :: boxW q2 4 1 ⟨#[]⟩ :: boxW qa 3 0 ⟨#[97]⟩ :: heapR h KO16.H2 :: Rs) W') := Lib.hid fun W S => (none_z W).mono fun e W' ⟨e1, e2⟩ => ⟨e1, S.later e2⟩
    have KF : Hid (∀ W, Sep w (boxN (q8 + 1) typeError :: boxZ q8 :: boxE (q6 + 1) :: boxW q6 1 0 ⟨#[]⟩ :: boxE q5 :: boxW q3 4 2 ⟨#[]⟩ :: boxW q2 4 1 ⟨#[]⟩ :: boxW qa 3 0 ⟨#[97]⟩ :: heapR h KO16.H2 :: Rs) W → Calls Tryz.prog 20 #[.bool false] W fun e W' => e = .returned (.agg #[.int .i64 1, .int .i64 0, .string ⟨#[]⟩]) ∧ Sep w (boxN (q8 + 1) typeError :: boxZ q8 :: boxE (q6 + 1) :: boxW q6 1 0 ⟨#[]⟩ :: boxE q5 :: boxW q3 4 2 ⟨#[]⟩ :: boxW q2 4 1 ⟨#[]⟩ :: boxW qa 3 0 ⟨#[97]⟩ :: heapR h KO16.H2 :: Rs) W') := Lib.hid fun W S => (lyes_ok W false).mono fun e W' ⟨e1, e2⟩ => ⟨e1, S.later e2⟩
    have KT : Hid (∀ W, Sep w (boxN (q8 + 1) typeError :: boxZ q8 :: boxE (q6 + 1) :: boxW q6 1 0 ⟨#[]⟩ :: boxE q5 :: boxW q3 4 2 ⟨#[]⟩ :: boxW q2 4 1 ⟨#[]⟩ :: boxW qa 3 0 ⟨#[97]⟩ :: heapR h KO16.H2 :: Rs) W → Calls Tryz.prog 21 #[excN typeError, .string typeError] W fun e W' => e = .returned (.bool true) ∧ Sep w (boxN (q8 + 1) typeError :: boxZ q8 :: boxE (q6 + 1) :: boxW q6 1 0 ⟨#[]⟩ :: boxE q5 :: boxW q3 4 2 ⟨#[]⟩ :: boxW q2 4 1 ⟨#[]⟩ :: boxW qa 3 0 ⟨#[97]⟩ :: heapR h KO16.H2 :: Rs) W') := Lib.hid fun W S => (raised_type W).mono fun e W' ⟨e1, e2⟩ => ⟨e1, S.later e2⟩
    have EQ : ∀ W, (binOp .eql 29 (.agg #[.int .i64 1, .int .i64 0, .string ⟨#[]⟩]) (.agg #[.int .i64 1, .int .i64 0, .string ⟨#[]⟩])).run Tryz.prog W = .ok (.bool true) W := fun W => by go_simp
    go_upto_region 9 with fail
    try simp only [hq8]
    refine wp_region_sep (by kernel_rfl) (by kernel_rfl) (S) ?_
    repeat (first | go_big_quiet_skip | (go_big_quiet_want; apply Exists.intro; refine ⟨fun Wq hWq => ?_, ?_⟩; (focus (have f0 := cellAt (hWq.box (b := q8 + 1) 0 rfl) 0 (v := .string typeError) rfl; have f1 := cellAt (hWq.box (b := q8 + 1) 0 rfl) 1 (v := .int .i64 0) rfl; have f2 := cellAt (hWq.box (b := q8 + 1) 0 rfl) 2 (v := .int .i64 0) rfl; have f3 := cellAt (hWq.box (b := q8 + 1) 0 rfl) 3 (v := .string ⟨#[]⟩) rfl; have f4 := cellAt (hWq.box (b := q8 + 1) 0 rfl) 4 (v := .bool false) rfl; have f5 := cellAt (hWq.box (b := q6 + 1) 2 rfl) 0 (v := .string ⟨#[]⟩) rfl; have f6 := cellAt (hWq.box (b := q6 + 1) 2 rfl) 1 (v := .int .i64 0) rfl; have f7 := cellAt (hWq.box (b := q6 + 1) 2 rfl) 2 (v := .int .i64 0) rfl; have f8 := cellAt (hWq.box (b := q6 + 1) 2 rfl) 3 (v := .string ⟨#[]⟩) rfl; have f9 := cellAt (hWq.box (b := q6 + 1) 2 rfl) 4 (v := .bool false) rfl; have f10 := cellAt (hWq.box (b := q6) 3 rfl) 0 (v := .int .i64 1) rfl; have f11 := cellAt (hWq.box (b := q6) 3 rfl) 1 (v := .int .i64 0) rfl; have f12 := cellAt (hWq.box (b := q6) 3 rfl) 2 (v := .string ⟨#[]⟩) rfl; have f13 := cellAt (hWq.box (b := q5) 4 rfl) 0 (v := .string ⟨#[]⟩) rfl; have f14 := cellAt (hWq.box (b := q5) 4 rfl) 1 (v := .int .i64 0) rfl; have f15 := cellAt (hWq.box (b := q5) 4 rfl) 2 (v := .int .i64 0) rfl; have f16 := cellAt (hWq.box (b := q5) 4 rfl) 3 (v := .string ⟨#[]⟩) rfl; have f17 := cellAt (hWq.box (b := q5) 4 rfl) 4 (v := .bool false) rfl; go_simp; first | done | rfl | exact ⟨rfl, rfl⟩ | (with_reducible (first | exact KZ.out _ hWq | exact KF.out _ hWq | exact KT.out _ hWq)))); go_big_quiet_on; simp only [Act.put, List.setIfInBounds_toArray, List.set_cons_zero, List.set_cons_succ]))
    refine wpQuiet_nil ?_
    intro wq hq
    have HS : Hid (Sep w Rs wq) := Lib.hid (hq.tail.tail.tail.tail.tail.tail.tail.tail.tail)
    clear S hq KZ KF KT
    go_wp2
    go_ret
    exact ⟨rfl, HS.out⟩
end
end Go.Proofs.YtellmfimmghidaaGreat
/- ch 16: <, <=, >, >=. -/
namespace Go.Proofs.YtellmfimmghidaaGreat
set_option linter.unusedSimpArgs false
open Go.RowKit
set_option linter.unusedVariables false
/-- What an order tells of a comparison's sign. -/
def ordB (lo eq : Bool) (c : Int) : Bool := (decide (c = 0) && eq) || (!decide (c = 0) && (decide (c < 0) == lo))
def ordRes (lo eq : Bool) (x y : V) : CmpRes :=
  if x.kind = 2 ∧ y.kind = 2 then .ok (ordB lo eq (cmpB x.n y.n))
  else if x.kind = 3 ∧ y.kind = 3 then .ok (ordB lo eq (cmpL x.s.data.toList y.s.data.toList))
  else .type
section
variable {w W : World} {Rs : List Res} {h : Nat} {H : HeapM}
set_option maxRecDepth 100000 in
theorem cmpInt_ok (W : World) (x y : Int) : Calls Tryz.prog 89 #[.int .i64 x, .int .i64 y] W fun e W' => e = .returned (.int .i64 (cmpB x y)) ∧ W' = W := by
  unfold cmpB
  by_cases h1 : x < y
  · rw [if_pos h1]
    go_enter Tryz.func89, Tryz.ntmps89
    go_wp2
    go_ret
    exact ⟨rfl, rfl⟩
  · rw [if_neg h1]
    by_cases h2 : x > y
    · rw [if_pos h2]
      go_enter Tryz.func89, Tryz.ntmps89
      go_wp2
      go_ret
      exact ⟨rfl, rfl⟩
    · rw [if_neg h2]
      go_enter Tryz.func89, Tryz.ntmps89
      go_wp2
      go_ret
      exact ⟨rfl, rfl⟩
set_option maxRecDepth 100000 in
set_option maxHeartbeats 4000000 in
theorem orderOp_ok (lo eq : Bool) (qb i : Nat) (S : Sep w Rs W) (hi : Rs[i]? = some (heapR h H)) (h1 : ∃ j : Nat, Rs[j]? = some (boxR qb (.cells #[.bool lo] 4))) (h2 : ∃ j : Nat, Rs[j]? = some (boxR (qb + 1) (.cells #[.bool eq] 4))) (x y : V) :
    Calls Tryz.prog 88 #[.pointer (some ⟨h, 0, none⟩), .agg #[.int .i64 x.kind, .int .i64 x.n, .string x.s], .agg #[.int .i64 y.kind, .int .i64 y.n, .string y.s], .pointer (some ⟨qb + 1, 0, none⟩), .pointer (some ⟨qb, 0, none⟩)] W fun e W' => e = .returned (ordRes lo eq x y).val ∧ Sep w Rs W' := by
  obtain ⟨b, hb⟩ : ∃ gx_, (W.heap.size) = gx_ := ⟨_, rfl⟩
  have S1 := ((S.alloc (.cells #[.int .i64 x.kind, .int .i64 x.n, .string x.s] 29)).alloc (.cells #[.int .i64 y.kind, .int .i64 y.n, .string y.s] 29)).alloc (.cells #[.string ⟨#[]⟩, .int .i64 0, .int .i64 0, .string ⟨#[]⟩, .bool false] 38)
  simp only [World.size_alloc, hb] at S1
  replace S1 : Sep w (boxE (b + 1 + 1) :: boxV (b + 1) y :: boxV b x :: Rs) _ := S1
  obtain ⟨j1, h1⟩ := h1
  obtain ⟨j2, h2⟩ := h2
  have KC : Hid (∀ W, Sep w (boxE (b + 1 + 1) :: boxV (b + 1) y :: boxV b x :: Rs) W → W.cell? ⟨qb, 0, none⟩ = some (.bool lo) ∧ W.cell? ⟨qb + 1, 0, none⟩ = some (.bool eq)) := Lib.hid fun W S => ⟨cellAt (S.box (j1 + 3) (by simpa using h1)) 0 rfl, cellAt (S.box (j2 + 3) (by simpa using h2)) 0 rfl⟩
  obtain ⟨d00, d01, d02⟩ := wpVal x (S1.box (b := b) 2 rfl)
  obtain ⟨d10, d11, d12⟩ := wpVal y (S1.box (b := b + 1) 1 rfl)
  have KI : Hid (∀ W, Sep w (boxE (b + 1 + 1) :: boxV (b + 1) y :: boxV b x :: Rs) W → Calls Tryz.prog 89 #[.int .i64 x.n, .int .i64 y.n] W fun e W' => e = .returned (.int .i64 (cmpB x.n y.n)) ∧ Sep w (boxE (b + 1 + 1) :: boxV (b + 1) y :: boxV b x :: Rs) W') := Lib.hid fun W S => (cmpInt_ok W _ _).mono fun e W' ⟨e1, e2⟩ => ⟨e1, by rw [e2]; exact S⟩
  have KS : Hid (∀ W, Sep w (boxE (b + 1 + 1) :: boxV (b + 1) y :: boxV b x :: Rs) W → Calls Tryz.prog 90 #[.string x.s, .string y.s] W fun e W' => e = .returned (.int .i64 (cmpL x.s.data.toList y.s.data.toList)) ∧ Sep w (boxE (b + 1 + 1) :: boxV (b + 1) y :: boxV b x :: Rs) W') := Lib.hid fun W S => (compare_i x.s y.s W x.hs y.hs).mono fun e W' ⟨e1, e2⟩ => ⟨e1, S.later e2⟩
  have KR : Hid (∀ W, Sep w (boxE (b + 1 + 1) :: boxV (b + 1) y :: boxV b x :: Rs) W → Calls Tryz.prog 57 #[.string typeError] W fun e W' => e = .returned (excN typeError) ∧ Sep w (boxE (b + 1 + 1) :: boxV (b + 1) y :: boxV b x :: Rs) W') := Lib.hid fun W S => (raise_ok W _).mono fun e W' ⟨e1, e2⟩ => ⟨e1, S.later e2⟩
  have c3 : ∀ c : Int, (c = 0 ∨ c = 1 ∨ c = -1) → True := fun _ _ => trivial
  have HO : Hid (ordRes lo eq x y = if x.kind = 2 ∧ y.kind = 2 then .ok (ordB lo eq (cmpB x.n y.n))
    else if x.kind = 3 ∧ y.kind = 3 then .ok (ordB lo eq (cmpL x.s.data.toList y.s.data.toList)) else .type) := Lib.hid rfl
  obtain ⟨rr, hrr⟩ : ∃ r, ordRes lo eq x y = r := ⟨_, rfl⟩
  rw [hrr] at HO ⊢
  clear hrr c3
  have H1 := Lib.hid S1
  clear S S1 h1 h2 hi
  by_cases hx2 : x.kind = 2
  · have g1 : (x.kind == 2) = true := by simp [hx2]
    by_cases hy2 : y.kind = 2
    · have g2 : (y.kind == 2) = true := by simp [hy2]
      have HR : Hid (rr = .ok (ordB lo eq (cmpB x.n y.n))) := Lib.hid (by rw [HO.out, if_pos ⟨hx2, hy2⟩])
      clear HO hx2 hy2
      go_enter Tryz.func88, Tryz.ntmps88
      have M := Lib.hid (KI.out _ H1.out)
      go_wp2_with fail
      try simp only [World.size_alloc, hb]
      refine M.out.mono ?_
      rintro e w1 ⟨rfl, S⟩
      clear M d00 d01 d02 d10 d11 d12
      obtain ⟨c, hc⟩ : ∃ c, cmpB x.n y.n = c := ⟨_, rfl⟩
      have hc3 : c = 0 ∨ c = 1 ∨ c = -1 := by rw [← hc]; exact (by unfold cmpB; split; exact .inr (.inr rfl); split; exact .inr (.inl rfl); exact .inl rfl)
      rw [hc] at HR ⊢
      clear hc
      rcases hc3 with rfl | rfl | rfl
      · cases eq with
        | false =>
          have hz := S.box (b := b + 1 + 1) 0 rfl
          have z0 := cellAt hz 0 (v := .string ⟨#[]⟩) rfl
          have z1 := cellAt hz 1 (v := .int .i64 0) rfl
          have z2 := cellAt hz 2 (v := .int .i64 0) rfl
          have z3 := cellAt hz 3 (v := .string ⟨#[]⟩) rfl
          have z4 := cellAt hz 4 (v := .bool false) rfl
          have z5 := frozenAt hz 0
          have z6 := frozenAt hz 1
          have z7 := frozenAt hz 2
          have z8 := frozenAt hz 3
          have z9 := frozenAt hz 4
          obtain ⟨k0, k1⟩ := KC.out _ S
          have S9 := Lib.hid (S.toAny (q := b + 1 + 1) 0 rfl)
          have FR : Hid (∀ W', Sep w (anyR (b + 1 + 1) :: boxV (b + 1) y :: boxV b x :: Rs) W' → Sep w Rs W') := Lib.hid fun W' T => T.tail.tail.tail
          clear S hz
          go_wp2
          refine bodyPost_ret (v := .tuple #[.bool false, excZ]) ?_ ?_ ?_
          · simp [results, Tryz.results88, go_sem, z0, z1, z2, z3, z4]
          · rfl
          refine ⟨by rw [HR.out]; rfl, FR.out _ ?_⟩
          iterate 5 refine Sep.poke (q := b + 1 + 1) ?_ 0 rfl _ _
          exact S9.out
        | true =>
          have hz := S.box (b := b + 1 + 1) 0 rfl
          have z0 := cellAt hz 0 (v := .string ⟨#[]⟩) rfl
          have z1 := cellAt hz 1 (v := .int .i64 0) rfl
          have z2 := cellAt hz 2 (v := .int .i64 0) rfl
          have z3 := cellAt hz 3 (v := .string ⟨#[]⟩) rfl
          have z4 := cellAt hz 4 (v := .bool false) rfl
          have z5 := frozenAt hz 0
          have z6 := frozenAt hz 1
          have z7 := frozenAt hz 2
          have z8 := frozenAt hz 3
          have z9 := frozenAt hz 4
          obtain ⟨k0, k1⟩ := KC.out _ S
          have S9 := Lib.hid (S.toAny (q := b + 1 + 1) 0 rfl)
          have FR : Hid (∀ W', Sep w (anyR (b + 1 + 1) :: boxV (b + 1) y :: boxV b x :: Rs) W' → Sep w Rs W') := Lib.hid fun W' T => T.tail.tail.tail
          clear S hz
          go_wp2
          refine bodyPost_ret (v := .tuple #[.bool true, excZ]) ?_ ?_ ?_
          · simp [results, Tryz.results88, go_sem, z0, z1, z2, z3, z4]
          · rfl
          refine ⟨by rw [HR.out]; rfl, FR.out _ ?_⟩
          iterate 5 refine Sep.poke (q := b + 1 + 1) ?_ 0 rfl _ _
          exact S9.out
      · have hz := S.box (b := b + 1 + 1) 0 rfl
        have z0 := cellAt hz 0 (v := .string ⟨#[]⟩) rfl
        have z1 := cellAt hz 1 (v := .int .i64 0) rfl
        have z2 := cellAt hz 2 (v := .int .i64 0) rfl
        have z3 := cellAt hz 3 (v := .string ⟨#[]⟩) rfl
        have z4 := cellAt hz 4 (v := .bool false) rfl
        have z5 := frozenAt hz 0
        have z6 := frozenAt hz 1
        have z7 := frozenAt hz 2
        have z8 := frozenAt hz 3
        have z9 := frozenAt hz 4
        obtain ⟨k0, k1⟩ := KC.out _ S
        have S9 := Lib.hid (S.toAny (q := b + 1 + 1) 0 rfl)
        have FR : Hid (∀ W', Sep w (anyR (b + 1 + 1) :: boxV (b + 1) y :: boxV b x :: Rs) W' → Sep w Rs W') := Lib.hid fun W' T => T.tail.tail.tail
        clear S hz
        cases lo with
        | false =>
          go_wp2
          refine bodyPost_ret (v := .tuple #[.bool true, excZ]) ?_ ?_ ?_
          · simp [results, Tryz.results88, go_sem, z0, z1, z2, z3, z4]
          · rfl
          refine ⟨by rw [HR.out]; rfl, FR.out _ ?_⟩
          iterate 5 refine Sep.poke (q := b + 1 + 1) ?_ 0 rfl _ _
          exact S9.out
        | true =>
          go_wp2
          refine bodyPost_ret (v := .tuple #[.bool false, excZ]) ?_ ?_ ?_
          · simp [results, Tryz.results88, go_sem, z0, z1, z2, z3, z4]
          · rfl
          refine ⟨by rw [HR.out]; rfl, FR.out _ ?_⟩
          iterate 5 refine Sep.poke (q := b + 1 + 1) ?_ 0 rfl _ _
          exact S9.out
      · have hz := S.box (b := b + 1 + 1) 0 rfl
        have z0 := cellAt hz 0 (v := .string ⟨#[]⟩) rfl
        have z1 := cellAt hz 1 (v := .int .i64 0) rfl
        have z2 := cellAt hz 2 (v := .int .i64 0) rfl
        have z3 := cellAt hz 3 (v := .string ⟨#[]⟩) rfl
        have z4 := cellAt hz 4 (v := .bool false) rfl
        have z5 := frozenAt hz 0
        have z6 := frozenAt hz 1
        have z7 := frozenAt hz 2
        have z8 := frozenAt hz 3
        have z9 := frozenAt hz 4
        obtain ⟨k0, k1⟩ := KC.out _ S
        have S9 := Lib.hid (S.toAny (q := b + 1 + 1) 0 rfl)
        have FR : Hid (∀ W', Sep w (anyR (b + 1 + 1) :: boxV (b + 1) y :: boxV b x :: Rs) W' → Sep w Rs W') := Lib.hid fun W' T => T.tail.tail.tail
        clear S hz
        cases lo with
        | false =>
          go_wp2
          refine bodyPost_ret (v := .tuple #[.bool false, excZ]) ?_ ?_ ?_
          · simp [results, Tryz.results88, go_sem, z0, z1, z2, z3, z4]
          · rfl
          refine ⟨by rw [HR.out]; rfl, FR.out _ ?_⟩
          iterate 5 refine Sep.poke (q := b + 1 + 1) ?_ 0 rfl _ _
          exact S9.out
        | true =>
          go_wp2
          refine bodyPost_ret (v := .tuple #[.bool true, excZ]) ?_ ?_ ?_
          · simp [results, Tryz.results88, go_sem, z0, z1, z2, z3, z4]
          · rfl
          refine ⟨by rw [HR.out]; rfl, FR.out _ ?_⟩
          iterate 5 refine Sep.poke (q := b + 1 + 1) ?_ 0 rfl _ _
          exact S9.out
    · have g2 : (y.kind == 2) = false := by simp [hy2]
      have g3 : (x.kind == 3) = false := by simp [hx2]
      have HR : Hid (rr = .type) := Lib.hid (by rw [HO.out, if_neg (fun e => hy2 e.2), if_neg (fun e => by omega)])
      clear HO hx2 hy2
      go_enter Tryz.func88, Tryz.ntmps88
      have M := Lib.hid (KR.out _ H1.out)
      go_wp2_with fail
      try simp only [World.size_alloc, hb]
      refine M.out.mono ?_
      rintro e w1 ⟨rfl, S⟩
      clear M d00 d01 d02 d10 d11 d12
      have hz := S.box (b := b + 1 + 1) 0 rfl
      have z0 := cellAt hz 0 (v := .string ⟨#[]⟩) rfl
      have z1 := cellAt hz 1 (v := .int .i64 0) rfl
      have z2 := cellAt hz 2 (v := .int .i64 0) rfl
      have z3 := cellAt hz 3 (v := .string ⟨#[]⟩) rfl
      have z4 := cellAt hz 4 (v := .bool false) rfl
      have z5 := frozenAt hz 0
      have z6 := frozenAt hz 1
      have z7 := frozenAt hz 2
      have z8 := frozenAt hz 3
      have z9 := frozenAt hz 4
      obtain ⟨k0, k1⟩ := KC.out _ S
      have S9 := Lib.hid (S.toAny (q := b + 1 + 1) 0 rfl)
      have FR : Hid (∀ W', Sep w (anyR (b + 1 + 1) :: boxV (b + 1) y :: boxV b x :: Rs) W' → Sep w Rs W') := Lib.hid fun W' T => T.tail.tail.tail
      clear S hz
      go_wp2
      refine bodyPost_ret (v := .tuple #[.bool false, excN typeError]) ?_ ?_ ?_
      · simp [results, Tryz.results88, go_sem, z0, z1, z2, z3, z4]
      · rfl
      refine ⟨by rw [HR.out]; rfl, FR.out _ ?_⟩
      iterate 5 refine Sep.poke (q := b + 1 + 1) ?_ 0 rfl _ _
      exact S9.out
  · have g1 : (x.kind == 2) = false := by simp [hx2]
    by_cases hx3 : x.kind = 3
    · have g3 : (x.kind == 3) = true := by simp [hx3]
      by_cases hy3 : y.kind = 3
      · have g4 : (y.kind == 3) = true := by simp [hy3]
        have HR : Hid (rr = .ok (ordB lo eq (cmpL x.s.data.toList y.s.data.toList))) := Lib.hid (by rw [HO.out, if_neg (fun e => hx2 e.1), if_pos ⟨hx3, hy3⟩])
        clear HO hx2 hx3 hy3
        go_enter Tryz.func88, Tryz.ntmps88
        have M := Lib.hid (KS.out _ H1.out)
        go_wp2_with fail
        try simp only [World.size_alloc, hb]
        refine M.out.mono ?_
        rintro e w1 ⟨rfl, S⟩
        clear M d00 d01 d02 d10 d11 d12
        obtain ⟨c, hc⟩ : ∃ c, cmpL x.s.data.toList y.s.data.toList = c := ⟨_, rfl⟩
        have hc3 : c = 0 ∨ c = 1 ∨ c = -1 := by rw [← hc]; exact cmpL_three _ _
        rw [hc] at HR ⊢
        clear hc
        rcases hc3 with rfl | rfl | rfl
        · cases eq with
          | false =>
            have hz := S.box (b := b + 1 + 1) 0 rfl
            have z0 := cellAt hz 0 (v := .string ⟨#[]⟩) rfl
            have z1 := cellAt hz 1 (v := .int .i64 0) rfl
            have z2 := cellAt hz 2 (v := .int .i64 0) rfl
            have z3 := cellAt hz 3 (v := .string ⟨#[]⟩) rfl
            have z4 := cellAt hz 4 (v := .bool false) rfl
            have z5 := frozenAt hz 0
            have z6 := frozenAt hz 1
            have z7 := frozenAt hz 2
            have z8 := frozenAt hz 3
            have z9 := frozenAt hz 4
            obtain ⟨k0, k1⟩ := KC.out _ S
            have S9 := Lib.hid (S.toAny (q := b + 1 + 1) 0 rfl)
            have FR : Hid (∀ W', Sep w (anyR (b + 1 + 1) :: boxV (b + 1) y :: boxV b x :: Rs) W' → Sep w Rs W') := Lib.hid fun W' T => T.tail.tail.tail
            clear S hz
            go_wp2
            refine bodyPost_ret (v := .tuple #[.bool false, excZ]) ?_ ?_ ?_
            · simp [results, Tryz.results88, go_sem, z0, z1, z2, z3, z4]
            · rfl
            refine ⟨by rw [HR.out]; rfl, FR.out _ ?_⟩
            iterate 5 refine Sep.poke (q := b + 1 + 1) ?_ 0 rfl _ _
            exact S9.out
          | true =>
            have hz := S.box (b := b + 1 + 1) 0 rfl
            have z0 := cellAt hz 0 (v := .string ⟨#[]⟩) rfl
            have z1 := cellAt hz 1 (v := .int .i64 0) rfl
            have z2 := cellAt hz 2 (v := .int .i64 0) rfl
            have z3 := cellAt hz 3 (v := .string ⟨#[]⟩) rfl
            have z4 := cellAt hz 4 (v := .bool false) rfl
            have z5 := frozenAt hz 0
            have z6 := frozenAt hz 1
            have z7 := frozenAt hz 2
            have z8 := frozenAt hz 3
            have z9 := frozenAt hz 4
            obtain ⟨k0, k1⟩ := KC.out _ S
            have S9 := Lib.hid (S.toAny (q := b + 1 + 1) 0 rfl)
            have FR : Hid (∀ W', Sep w (anyR (b + 1 + 1) :: boxV (b + 1) y :: boxV b x :: Rs) W' → Sep w Rs W') := Lib.hid fun W' T => T.tail.tail.tail
            clear S hz
            go_wp2
            refine bodyPost_ret (v := .tuple #[.bool true, excZ]) ?_ ?_ ?_
            · simp [results, Tryz.results88, go_sem, z0, z1, z2, z3, z4]
            · rfl
            refine ⟨by rw [HR.out]; rfl, FR.out _ ?_⟩
            iterate 5 refine Sep.poke (q := b + 1 + 1) ?_ 0 rfl _ _
            exact S9.out
        · have hz := S.box (b := b + 1 + 1) 0 rfl
          have z0 := cellAt hz 0 (v := .string ⟨#[]⟩) rfl
          have z1 := cellAt hz 1 (v := .int .i64 0) rfl
          have z2 := cellAt hz 2 (v := .int .i64 0) rfl
          have z3 := cellAt hz 3 (v := .string ⟨#[]⟩) rfl
          have z4 := cellAt hz 4 (v := .bool false) rfl
          have z5 := frozenAt hz 0
          have z6 := frozenAt hz 1
          have z7 := frozenAt hz 2
          have z8 := frozenAt hz 3
          have z9 := frozenAt hz 4
          obtain ⟨k0, k1⟩ := KC.out _ S
          have S9 := Lib.hid (S.toAny (q := b + 1 + 1) 0 rfl)
          have FR : Hid (∀ W', Sep w (anyR (b + 1 + 1) :: boxV (b + 1) y :: boxV b x :: Rs) W' → Sep w Rs W') := Lib.hid fun W' T => T.tail.tail.tail
          clear S hz
          cases lo with
          | false =>
            go_wp2
            refine bodyPost_ret (v := .tuple #[.bool true, excZ]) ?_ ?_ ?_
            · simp [results, Tryz.results88, go_sem, z0, z1, z2, z3, z4]
            · rfl
            refine ⟨by rw [HR.out]; rfl, FR.out _ ?_⟩
            iterate 5 refine Sep.poke (q := b + 1 + 1) ?_ 0 rfl _ _
            exact S9.out
          | true =>
            go_wp2
            refine bodyPost_ret (v := .tuple #[.bool false, excZ]) ?_ ?_ ?_
            · simp [results, Tryz.results88, go_sem, z0, z1, z2, z3, z4]
            · rfl
            refine ⟨by rw [HR.out]; rfl, FR.out _ ?_⟩
            iterate 5 refine Sep.poke (q := b + 1 + 1) ?_ 0 rfl _ _
            exact S9.out
        · have hz := S.box (b := b + 1 + 1) 0 rfl
          have z0 := cellAt hz 0 (v := .string ⟨#[]⟩) rfl
          have z1 := cellAt hz 1 (v := .int .i64 0) rfl
          have z2 := cellAt hz 2 (v := .int .i64 0) rfl
          have z3 := cellAt hz 3 (v := .string ⟨#[]⟩) rfl
          have z4 := cellAt hz 4 (v := .bool false) rfl
          have z5 := frozenAt hz 0
          have z6 := frozenAt hz 1
          have z7 := frozenAt hz 2
          have z8 := frozenAt hz 3
          have z9 := frozenAt hz 4
          obtain ⟨k0, k1⟩ := KC.out _ S
          have S9 := Lib.hid (S.toAny (q := b + 1 + 1) 0 rfl)
          have FR : Hid (∀ W', Sep w (anyR (b + 1 + 1) :: boxV (b + 1) y :: boxV b x :: Rs) W' → Sep w Rs W') := Lib.hid fun W' T => T.tail.tail.tail
          clear S hz
          cases lo with
          | false =>
            go_wp2
            refine bodyPost_ret (v := .tuple #[.bool false, excZ]) ?_ ?_ ?_
            · simp [results, Tryz.results88, go_sem, z0, z1, z2, z3, z4]
            · rfl
            refine ⟨by rw [HR.out]; rfl, FR.out _ ?_⟩
            iterate 5 refine Sep.poke (q := b + 1 + 1) ?_ 0 rfl _ _
            exact S9.out
          | true =>
            go_wp2
            refine bodyPost_ret (v := .tuple #[.bool true, excZ]) ?_ ?_ ?_
            · simp [results, Tryz.results88, go_sem, z0, z1, z2, z3, z4]
            · rfl
            refine ⟨by rw [HR.out]; rfl, FR.out _ ?_⟩
            iterate 5 refine Sep.poke (q := b + 1 + 1) ?_ 0 rfl _ _
            exact S9.out
      · have g4 : (y.kind == 3) = false := by simp [hy3]
        have HR : Hid (rr = .type) := Lib.hid (by rw [HO.out, if_neg (fun e => hx2 e.1), if_neg (fun e => hy3 e.2)])
        clear HO hx2 hx3 hy3
        go_enter Tryz.func88, Tryz.ntmps88
        have M := Lib.hid (KR.out _ H1.out)
        go_wp2_with fail
        try simp only [World.size_alloc, hb]
        refine M.out.mono ?_
        rintro e w1 ⟨rfl, S⟩
        clear M d00 d01 d02 d10 d11 d12
        have hz := S.box (b := b + 1 + 1) 0 rfl
        have z0 := cellAt hz 0 (v := .string ⟨#[]⟩) rfl
        have z1 := cellAt hz 1 (v := .int .i64 0) rfl
        have z2 := cellAt hz 2 (v := .int .i64 0) rfl
        have z3 := cellAt hz 3 (v := .string ⟨#[]⟩) rfl
        have z4 := cellAt hz 4 (v := .bool false) rfl
        have z5 := frozenAt hz 0
        have z6 := frozenAt hz 1
        have z7 := frozenAt hz 2
        have z8 := frozenAt hz 3
        have z9 := frozenAt hz 4
        obtain ⟨k0, k1⟩ := KC.out _ S
        have S9 := Lib.hid (S.toAny (q := b + 1 + 1) 0 rfl)
        have FR : Hid (∀ W', Sep w (anyR (b + 1 + 1) :: boxV (b + 1) y :: boxV b x :: Rs) W' → Sep w Rs W') := Lib.hid fun W' T => T.tail.tail.tail
        clear S hz
        go_wp2
        refine bodyPost_ret (v := .tuple #[.bool false, excN typeError]) ?_ ?_ ?_
        · simp [results, Tryz.results88, go_sem, z0, z1, z2, z3, z4]
        · rfl
        refine ⟨by rw [HR.out]; rfl, FR.out _ ?_⟩
        iterate 5 refine Sep.poke (q := b + 1 + 1) ?_ 0 rfl _ _
        exact S9.out
    · have g3 : (x.kind == 3) = false := by simp [hx3]
      have HR : Hid (rr = .type) := Lib.hid (by rw [HO.out, if_neg (fun e => hx2 e.1), if_neg (fun e => hx3 e.1)])
      clear HO hx2 hx3
      go_enter Tryz.func88, Tryz.ntmps88
      have M := Lib.hid (KR.out _ H1.out)
      go_wp2_with fail
      try simp only [World.size_alloc, hb]
      refine M.out.mono ?_
      rintro e w1 ⟨rfl, S⟩
      clear M d00 d01 d02 d10 d11 d12
      have hz := S.box (b := b + 1 + 1) 0 rfl
      have z0 := cellAt hz 0 (v := .string ⟨#[]⟩) rfl
      have z1 := cellAt hz 1 (v := .int .i64 0) rfl
      have z2 := cellAt hz 2 (v := .int .i64 0) rfl
      have z3 := cellAt hz 3 (v := .string ⟨#[]⟩) rfl
      have z4 := cellAt hz 4 (v := .bool false) rfl
      have z5 := frozenAt hz 0
      have z6 := frozenAt hz 1
      have z7 := frozenAt hz 2
      have z8 := frozenAt hz 3
      have z9 := frozenAt hz 4
      obtain ⟨k0, k1⟩ := KC.out _ S
      have S9 := Lib.hid (S.toAny (q := b + 1 + 1) 0 rfl)
      have FR : Hid (∀ W', Sep w (anyR (b + 1 + 1) :: boxV (b + 1) y :: boxV b x :: Rs) W' → Sep w Rs W') := Lib.hid fun W' T => T.tail.tail.tail
      clear S hz
      go_wp2
      refine bodyPost_ret (v := .tuple #[.bool false, excN typeError]) ?_ ?_ ?_
      · simp [results, Tryz.results88, go_sem, z0, z1, z2, z3, z4]
      · rfl
      refine ⟨by rw [HR.out]; rfl, FR.out _ ?_⟩
      iterate 5 refine Sep.poke (q := b + 1 + 1) ?_ 0 rfl _ _
      exact S9.out
end
end Go.Proofs.YtellmfimmghidaaGreat
/- ch 16: Cmp, op by op; order plainly. -/
namespace Go.Proofs.YtellmfimmghidaaGreat
set_option linter.unusedSimpArgs false
open Go.RowKit
set_option linter.unusedVariables false
section
variable {w W : World} {Rs : List Res} {h : Nat} {H : HeapM}
theorem cmp_lt (S : Sep w Rs W) (i : Nat) (hi : Rs[i]? = some (heapR h H)) (x y : V) (r : Value) (hr : r = cmpV (ordRes true false x y) false) :
    Calls Tryz.prog 18 #[.pointer (some ⟨h, 0, none⟩), .string ⟨#[60]⟩, .agg #[.int .i64 x.kind, .int .i64 x.n, .string x.s], .agg #[.int .i64 y.kind, .int .i64 y.n, .string y.s]] W fun e W' => e = .returned r ∧ Sep w Rs W' := by
  subst hr
  exact cmp_ord S i hi ⟨#[60]⟩ (by decide) false x y _ 1 true false (by decide) (fun m => rfl) (fun qb i S hi h1 h2 => orderOp_ok true false qb i S hi h1 h2 x y)
theorem cmp_le (S : Sep w Rs W) (i : Nat) (hi : Rs[i]? = some (heapR h H)) (x y : V) (r : Value) (hr : r = cmpV (ordRes true true x y) false) :
    Calls Tryz.prog 18 #[.pointer (some ⟨h, 0, none⟩), .string ⟨#[60, 61]⟩, .agg #[.int .i64 x.kind, .int .i64 x.n, .string x.s], .agg #[.int .i64 y.kind, .int .i64 y.n, .string y.s]] W fun e W' => e = .returned r ∧ Sep w Rs W' := by
  subst hr
  exact cmp_ord S i hi ⟨#[60, 61]⟩ (by decide) false x y _ 3 true true (by decide) (fun m => rfl) (fun qb i S hi h1 h2 => orderOp_ok true true qb i S hi h1 h2 x y)
theorem cmp_gt (S : Sep w Rs W) (i : Nat) (hi : Rs[i]? = some (heapR h H)) (x y : V) (r : Value) (hr : r = cmpV (ordRes false false x y) false) :
    Calls Tryz.prog 18 #[.pointer (some ⟨h, 0, none⟩), .string ⟨#[62]⟩, .agg #[.int .i64 x.kind, .int .i64 x.n, .string x.s], .agg #[.int .i64 y.kind, .int .i64 y.n, .string y.s]] W fun e W' => e = .returned r ∧ Sep w Rs W' := by
  subst hr
  exact cmp_ord S i hi ⟨#[62]⟩ (by decide) false x y _ 5 false false (by decide) (fun m => rfl) (fun qb i S hi h1 h2 => orderOp_ok false false qb i S hi h1 h2 x y)
theorem cmp_ge (S : Sep w Rs W) (i : Nat) (hi : Rs[i]? = some (heapR h H)) (x y : V) (r : Value) (hr : r = cmpV (ordRes false true x y) false) :
    Calls Tryz.prog 18 #[.pointer (some ⟨h, 0, none⟩), .string ⟨#[62, 61]⟩, .agg #[.int .i64 x.kind, .int .i64 x.n, .string x.s], .agg #[.int .i64 y.kind, .int .i64 y.n, .string y.s]] W fun e W' => e = .returned r ∧ Sep w Rs W' := by
  subst hr
  exact cmp_ord S i hi ⟨#[62, 61]⟩ (by decide) false x y _ 7 false true (by decide) (fun m => rfl) (fun qb i S hi h1 h2 => orderOp_ok false true qb i S hi h1 h2 x y)
/-- Same's answer, as a comparison's. -/
def sameC : Option Bool → CmpRes | some b => .ok b | none => .deep
theorem sameC_val (r : Option Bool) : (sameC r).val = sameV r := by cases r <;> rfl
theorem cmp_eq {N : Nat} (G : H.Good N) (hN : N ≤ 4000000) (S : Sep w Rs W) (i : Nat) (hi : Rs[i]? = some (heapR h H)) (x y : V) (r : Value) (hr : r = cmpV (sameC (H.sameF 30 x y)) false) :
    Calls Tryz.prog 18 #[.pointer (some ⟨h, 0, none⟩), .string ⟨#[61, 61]⟩, .agg #[.int .i64 x.kind, .int .i64 x.n, .string x.s], .agg #[.int .i64 y.kind, .int .i64 y.n, .string y.s]] W fun e W' => e = .returned r ∧ Sep w Rs W' := by
  subst hr
  exact cmp_same S i hi ⟨#[61, 61]⟩ (by decide) false x y _ (fun m => rfl) (fun i S hi => by rw [sameC_val]; exact sameOp_ok G hN i S hi x y)
theorem cmp_ne {N : Nat} (G : H.Good N) (hN : N ≤ 4000000) (S : Sep w Rs W) (i : Nat) (hi : Rs[i]? = some (heapR h H)) (x y : V) (r : Value) (hr : r = cmpV (sameC (H.sameF 30 x y)) true) :
    Calls Tryz.prog 18 #[.pointer (some ⟨h, 0, none⟩), .string ⟨#[33, 61]⟩, .agg #[.int .i64 x.kind, .int .i64 x.n, .string x.s], .agg #[.int .i64 y.kind, .int .i64 y.n, .string y.s]] W fun e W' => e = .returned r ∧ Sep w Rs W' := by
  subst hr
  exact cmp_same S i hi ⟨#[33, 61]⟩ (by decide) true x y _ (fun m => rfl) (fun i S hi => by rw [sameC_val]; exact sameOp_ok G hN i S hi x y)
end
/-- A heap without objects: two values are the same if they are the same one. -/
theorem same_empty (x y : V) : (⟨[], 0⟩ : HeapM).sameF 30 x y = some (decide (x = y)) := by
  have k : ∀ v : V, (⟨[], 0⟩ : HeapM).kind v = 0 := fun v => by unfold HeapM.kind HeapM.of; split <;> simp_all [getL]
  unfold HeapM.sameF HeapM.sameT HeapM.oneB HeapM.wholeB HeapM.rowB
  simp only [k]
  by_cases e : x = y <;> simp [e]
def vI (n : Int) (h : (Lit.int .i64 n).wf = true) : V := ⟨2, n, ⟨#[]⟩, by decide, h, by decide⟩
def vS (s : ByteArray) (h : s.size ≤ maxLen) : V := ⟨3, 0, s, by decide, by decide, h⟩
theorem ordB_lt : ordB true false (-1) = true ∧ ordB true false 0 = false ∧ ordB true false 1 = false := by decide
theorem vI_eq (n m : Int) (hn hm) : (vI n hn = vI m hm) ↔ n = m := by unfold vI; simp
theorem vS_eq (s t : ByteArray) (hs ht) : (vS s hs = vS t ht) ↔ s = t := by unfold vS; simp
/-- What the five comparisons tell. -/
structure Ord5 (x y : V) (l e g : Bool) : Prop where
  lt : ordRes true false x y = .ok l
  gt : ordRes false false x y = .ok g
  eq : decide (x = y) = e
  le : ordRes true true x y = .ok (!g)
  ge : ordRes false true x y = .ok (!l)
theorem ord5_int (n m : Int) (hn hm) :
    (n < m ∧ Ord5 (vI n hn) (vI m hm) true false false) ∨ (n = m ∧ Ord5 (vI n hn) (vI m hm) false true false) ∨ (m < n ∧ Ord5 (vI n hn) (vI m hm) false false true) := by
  have k : ∀ lo eq, ordRes lo eq (vI n hn) (vI m hm) = .ok (ordB lo eq (cmpB n m)) := fun lo eq => rfl
  rcases Int.lt_trichotomy n m with h | h | h
  · refine .inl ⟨h, ?_⟩
    have c : cmpB n m = -1 := by unfold cmpB; rw [if_pos h]
    have ne : n ≠ m := by omega
    exact ⟨by rw [k, c]; rfl, by rw [k, c]; rfl, by simp [vI_eq, ne], by rw [k, c]; rfl, by rw [k, c]; rfl⟩
  · refine .inr (.inl ⟨h, ?_⟩)
    have c : cmpB n m = 0 := by unfold cmpB; rw [if_neg (by omega), if_neg (by omega)]
    exact ⟨by rw [k, c]; rfl, by rw [k, c]; rfl, by simp [vI_eq, h], by rw [k, c]; rfl, by rw [k, c]; rfl⟩
  · refine .inr (.inr ⟨h, ?_⟩)
    have c : cmpB n m = 1 := by unfold cmpB; rw [if_neg (by omega), if_pos h]
    have ne : n ≠ m := by omega
    exact ⟨by rw [k, c]; rfl, by rw [k, c]; rfl, by simp [vI_eq, ne], by rw [k, c]; rfl, by rw [k, c]; rfl⟩
theorem cmpL_eq : ∀ x y : List UInt8, cmpL x y = 0 ↔ x = y
  | [], [] => by simp [cmpL]
  | [], _ :: _ => by simp [cmpL]
  | _ :: _, [] => by simp [cmpL]
  | a :: x, b :: y => by
    rw [cmpL]
    by_cases h1 : a.toNat < b.toNat
    · rw [if_pos h1]; simp; intro e; rw [e] at h1; omega
    · rw [if_neg h1]
      by_cases h2 : a.toNat > b.toNat
      · rw [if_pos h2]; simp; intro e; rw [e] at h2; omega
      · rw [if_neg h2, cmpL_eq x y]
        have : a = b := UInt8.toNat_inj.1 (by omega)
        simp [this]
theorem cmpL_less : ∀ x y : List UInt8, Op.bytesLess x y = decide (cmpL x y = -1)
  | [], [] => by simp [cmpL, Op.bytesLess]
  | [], _ :: _ => by simp [cmpL, Op.bytesLess]
  | _ :: _, [] => by simp [cmpL, Op.bytesLess]
  | a :: x, b :: y => by
    rw [cmpL, Op.bytesLess]
    by_cases h1 : a.toNat < b.toNat
    · rw [if_pos h1]; have : a < b := h1; simp [this]
    · rw [if_neg h1]
      have n1 : ¬ a < b := h1
      by_cases h2 : a.toNat > b.toNat
      · rw [if_pos h2]
        have : a ≠ b := fun e => by rw [e] at h2; omega
        simp [n1, this]
      · rw [if_neg h2]
        have : a = b := UInt8.toNat_inj.1 (by omega)
        simp [this, cmpL_less x y]
theorem ord5_str (s t : ByteArray) (hs ht) :
    (Op.bytesLess s.data.toList t.data.toList = true ∧ Ord5 (vS s hs) (vS t ht) true false false) ∨ (Op.bytesLess s.data.toList t.data.toList = false ∧ Ord5 (vS s hs) (vS t ht) false true false) ∨ (Op.bytesLess s.data.toList t.data.toList = false ∧ Ord5 (vS s hs) (vS t ht) false false true) := by
  have k : ∀ lo eq, ordRes lo eq (vS s hs) (vS t ht) = .ok (ordB lo eq (cmpL s.data.toList t.data.toList)) := fun lo eq => rfl
  rw [cmpL_less]
  have e0 : (s = t) ↔ cmpL s.data.toList t.data.toList = 0 := by
    rw [cmpL_eq]
    cases s; cases t
    simp [Array.toList_inj]
  rcases cmpL_three s.data.toList t.data.toList with c | c | c
  · refine .inr (.inl ⟨by rw [c]; rfl, ?_⟩)
    exact ⟨by rw [k, c]; rfl, by rw [k, c]; rfl, by simp [vS_eq, e0, c], by rw [k, c]; rfl, by rw [k, c]; rfl⟩
  · refine .inr (.inr ⟨by rw [c]; rfl, ?_⟩)
    exact ⟨by rw [k, c]; rfl, by rw [k, c]; rfl, by simp [vS_eq, e0, c], by rw [k, c]; rfl, by rw [k, c]; rfl⟩
  · refine .inl ⟨by rw [c]; rfl, ?_⟩
    exact ⟨by rw [k, c]; rfl, by rw [k, c]; rfl, by simp [vS_eq, e0, c], by rw [k, c]; rfl, by rw [k, c]; rfl⟩
end Go.Proofs.YtellmfimmghidaaGreat
/- Three values as they come in. -/
namespace Go.Proofs.YtellmfimmghidaaGreat
set_option linter.unusedSimpArgs false
open Go.ChangeShapes Go.WideShapes Go.ChangeAt Go.RowKit
set_option linter.unusedVariables false
def tripC (p : V × V × V) : List Value := p.1.cells ++ (p.2.1.cells ++ p.2.2.cells)
section
variable {H : Type} {enc : TypeId × Value → H} {w : World} {base : Nat} {spare : Nat → Bool} {held : Bool}
theorem cellsP3 : Tryz.prog.cellsOf 54 = 9 := by kernel_rfl
set_option maxRecDepth 100000 in
theorem trip_of_trod {n : Nat} {cs : List Value} {y : DataW H × List MemPlace} (h : DataW.trod enc Tryz.prog w base spare held n 54 cs = some y) : ∃ p : V × V × V, cs = tripC p := by
  obtain ⟨xs, n', _, hx, hlen, hxl, hf⟩ := DataW.trod_array Tryz.underlying54 h
  rw [cellsP3] at hlen
  match cs, hlen with
  | [c0, c1, c2, c3, c4, c5, c6, c7, c8], _ =>
    match xs, hxl with
    | [y0, y1, y2], _ =>
      have h0 : DataW.trod enc Tryz.prog w base spare held n' 29 [c0, c1, c2] = some y0 := by have := hf 0 (by omega); simpa [cells1.2.2.2] using this
      have h1 : DataW.trod enc Tryz.prog w base spare held n' 29 [c3, c4, c5] = some y1 := by have := hf 1 (by omega); simpa [cells1.2.2.2] using this
      have h2 : DataW.trod enc Tryz.prog w base spare held n' 29 [c6, c7, c8] = some y2 := by have := hf 2 (by omega); simpa [cells1.2.2.2] using this
      obtain ⟨v0, e0⟩ := val_of_trod h0
      obtain ⟨v1, e1⟩ := val_of_trod h1
      obtain ⟨v2, e2⟩ := val_of_trod h2
      exact ⟨(v0, v1, v2), by show [c0, c1, c2] ++ ([c3, c4, c5] ++ [c6, c7, c8]) = _; rw [e0, e1, e2]; rfl⟩
end
end Go.Proofs.YtellmfimmghidaaGreat
/- ch 16: equality is an equivalence, where nothing is raised. -/
namespace Go.Proofs.YtellmfimmghidaaGreat
set_option linter.unusedSimpArgs false
open Go.RowKit
set_option linter.unusedVariables false
theorem allM_true {α : Type} {p : α → Option Bool} : ∀ {l : List α}, allM p l = some true ↔ ∀ x ∈ l, p x = some true
  | [] => by simp [allM]
  | x :: l => by
    unfold allM
    constructor
    · intro h
      cases e : p x with
      | none => rw [e] at h; cases h
      | some b =>
        cases b with
        | false => rw [e] at h; cases h
        | true => rw [e] at h; exact fun y hy => (List.mem_cons.1 hy).elim (fun q => by rw [q]; exact e) (allM_true.1 h y)
    · intro h
      rw [h x (List.mem_cons_self ..)]
      exact allM_true.2 fun y hy => h y (List.mem_cons_of_mem _ hy)
theorem sub_back {α : Type} [DecidableEq α] : ∀ {l m : List α}, l.Nodup → m.Nodup → (∀ x ∈ l, x ∈ m) → m.length ≤ l.length → ∀ x ∈ m, x ∈ l
  | [], m, _, _, _, hl, x, hx => by
    have := List.length_pos_of_mem hx
    simp at hl; subst hl; cases hx
  | a :: l, m, hn, hm, hs, hl, x, hx => by
    have hn := List.nodup_cons.1 hn
    by_cases e : x = a
    · subst e; exact List.mem_cons_self ..
    · have ha := hs a (List.mem_cons_self ..)
      have := sub_back (l := l) (m := m.erase a) hn.2 (hm.erase a) (fun y hy => (List.Nodup.mem_erase_iff hm).2 ⟨fun q => hn.1 (q ▸ hy), hs y (List.mem_cons_of_mem _ hy)⟩)
        (by rw [List.length_erase_of_mem ha]; simp at hl; omega) x ((List.Nodup.mem_erase_iff hm).2 ⟨e, hx⟩)
      exact List.mem_cons_of_mem _ this
section
variable {H : HeapM}
theorem kind_four {v : V} (h : H.kind v ≠ 0) : v.kind = 4 := by
  unfold HeapM.kind HeapM.of at h
  by_cases e : v.kind = 4
  · exact e
  · rw [if_neg e] at h; exact absurd rfl h
theorem of_same {a b : V} (ha : H.kind a ≠ 0) (hb : H.kind b ≠ 0) (hn : a.n = b.n) : H.of a = H.of b := by
  unfold HeapM.of
  rw [if_pos (kind_four ha), if_pos (kind_four hb), hn]
theorem oneB_iff {a b : V} : H.oneB a b = true ↔ (H.kind a = 0 ∧ H.kind b = 0 ∧ a = b) ∨ (H.kind a ≠ 0 ∧ H.kind b ≠ 0 ∧ a.n = b.n) := by
  unfold HeapM.oneB
  by_cases h : H.kind a = 0 ∧ H.kind b = 0
  · rw [if_pos h]; simp [h.1, h.2]
  · rw [if_neg h]
    simp only [Bool.and_eq_true, decide_eq_true_eq]
    constructor
    · exact .inr
    · rintro (⟨h1, h2, _⟩ | h1)
      · exact absurd ⟨h1, h2⟩ h
      · exact h1
theorem oneB_symm {a b : V} (h : H.oneB a b = true) : H.oneB b a = true := by
  rw [oneB_iff] at h ⊢
  rcases h with ⟨h1, h2, h3⟩ | ⟨h1, h2, h3⟩
  · exact .inl ⟨h2, h1, h3.symm⟩
  · exact .inr ⟨h2, h1, h3.symm⟩
theorem oneB_self (a : V) : H.oneB a a = true := by
  rw [oneB_iff]
  by_cases h : H.kind a = 0
  · exact .inl ⟨h, h, rfl⟩
  · exact .inr ⟨h, h, rfl⟩
theorem sameT_one {a b : V} {r : Option Bool} (h : H.oneB a b = true) : H.sameT a b r = some true := by unfold HeapM.sameT; rw [if_pos h]
theorem sameF_one {a b : V} (h : H.oneB a b = true) : ∀ f, H.sameF f a b = some true
  | 0 => sameT_one h
  | f + 1 => sameT_one h
theorem sameT_true {a b : V} {r : Option Bool} : H.sameT a b r = some true ↔ H.oneB a b = true ∨ (H.wholeB a = true ∧ H.kind a = H.kind b ∧ H.sizeB a = H.sizeB b ∧ r = some true) := by
  unfold HeapM.sameT
  by_cases h1 : H.oneB a b = true
  · rw [if_pos h1]; simp [h1]
  · rw [if_neg h1]
    by_cases h2 : H.wholeB a = false ∨ H.kind a ≠ H.kind b
    · rw [if_pos h2]
      constructor
      · intro h
        have h3 : ((decide (H.kind a = 0) || decide (H.kind b = 0)) && decide (a = b)) = true := by injection h
        simp only [Bool.and_eq_true, Bool.or_eq_true, decide_eq_true_eq] at h3
        obtain ⟨_, rfl⟩ := h3
        exact .inl (oneB_self a)
      · rintro (h | ⟨h3, h4, _⟩)
        · exact absurd h h1
        · rcases h2 with h2 | h2
          · rw [h3] at h2; cases h2
          · exact absurd h4 h2
    · rw [if_neg h2]
      have h3 : H.wholeB a = true ∧ H.kind a = H.kind b := by
        constructor
        · cases e : H.wholeB a with
          | true => rfl
          | false => exact absurd (.inl e) h2
        · exact Classical.byContradiction fun e => h2 (.inr e)
      by_cases h4 : H.sizeB a ≠ H.sizeB b
      · rw [if_pos h4]
        constructor
        · intro h; cases h
        · rintro (h | ⟨_, _, h5, _⟩)
          · exact absurd h h1
          · exact absurd h5 h4
      · rw [if_neg h4]
        constructor
        · intro h; exact .inr ⟨h3.1, h3.2, Classical.byContradiction h4, h⟩
        · rintro (h | ⟨_, _, _, h5⟩)
          · exact absurd h h1
          · exact h5
theorem whole_of_kind {a b : V} (h : H.kind a = H.kind b) : H.wholeB a = H.wholeB b := by unfold HeapM.wholeB HeapM.rowB; rw [h]
/-- What is within: the third way of sameT. -/
def HeapM.inside (H : HeapM) (f : Nat) (a b : V) : Option Bool :=
  if H.kind a = 3 then allM (fun k : V => match H.get b k with | none => some false | some y => H.sameF f ((H.get a k).getD V.zero) y) ((H.pairs a).map (·.1))
  else allM (fun p : V × V => H.sameF f p.1 p.2) ((H.items a).zip (H.items b))
theorem sameF_succ (f : Nat) (a b : V) : H.sameF (f + 1) a b = H.sameT a b (H.inside f a b) := rfl
theorem inside_dict {f : Nat} {a b : V} (h3 : H.kind a = 3) : H.inside f a b = some true ↔ ∀ k ∈ (H.pairs a).map (·.1), ∃ y, H.get b k = some y ∧ H.sameF f ((H.get a k).getD V.zero) y = some true := by
  unfold HeapM.inside
  rw [if_pos h3, allM_true]
  constructor
  · intro h k hk
    have := h k hk
    cases e : H.get b k with
    | none => rw [e] at this; cases this
    | some y => rw [e] at this; exact ⟨y, rfl, this⟩
  · intro h k hk
    obtain ⟨y, e, h1⟩ := h k hk
    rw [e]; exact h1
theorem inside_row {f : Nat} {a b : V} (h3 : H.kind a ≠ 3) : H.inside f a b = some true ↔ ∀ (i : Nat) (x y : V), (H.items a)[i]? = some x → (H.items b)[i]? = some y → H.sameF f x y = some true := by
  unfold HeapM.inside
  rw [if_neg h3, allM_true]
  constructor
  · intro h i x y hx hy
    exact h (x, y) (List.mem_of_getElem? (i := i) (by rw [List.getElem?_zip_eq_some]; exact ⟨hx, hy⟩))
  · rintro h ⟨x, y⟩ hp
    obtain ⟨i, hi⟩ := List.getElem?_of_mem hp
    rw [List.getElem?_zip_eq_some] at hi
    exact h i x y hi.1 hi.2
theorem get_key {v k : V} : k ∈ (H.pairs v).map (·.1) ↔ ∃ y, H.get v k = some y := by
  unfold HeapM.get
  constructor
  · intro h
    cases e : getL (H.pairs v) k with
    | some y => exact ⟨y, rfl⟩
    | none =>
      obtain ⟨p, hp, hk⟩ := List.mem_map.1 h
      exact absurd hk (getL_none.1 e p hp)
  · rintro ⟨y, h⟩
    exact List.mem_map.2 ⟨(k, y), getL_mem h, rfl⟩
theorem keys_nd (F : ∀ p ∈ H.objs, (p.2.pairs.map (·.1)).Nodup) (v : V) : ((H.pairs v).map (·.1)).Nodup := by
  unfold HeapM.pairs
  cases e : H.of v with
  | none => simp
  | some o => exact F _ (getL_mem (HeapM.of_some e).2)
theorem same_left {a b c : V} (h : H.oneB a b = true) : ∀ f, H.sameF f a c = H.sameF f b c := by
  rcases oneB_iff.1 h with ⟨_, _, rfl⟩ | ⟨ka, kb, hn⟩
  · intro f; rfl
  · have ho := of_same ka kb hn
    have hk : H.kind a = H.kind b := by unfold HeapM.kind; rw [ho]
    have hi : H.items a = H.items b := by unfold HeapM.items; rw [ho]
    have hp : H.pairs a = H.pairs b := by unfold HeapM.pairs; rw [ho]
    have hg : ∀ k, H.get a k = H.get b k := fun k => by unfold HeapM.get; rw [hp]
    have h1 : H.oneB a c = H.oneB b c := by
      unfold HeapM.oneB
      rw [if_neg (fun q => ka q.1), if_neg (fun q => kb q.1), hk, hn]
    have h2 : ∀ v, H.kind v ≠ 0 → ((decide (H.kind v = 0) || decide (H.kind c = 0)) && decide (v = c)) = false := fun v hv => by
      by_cases e : v = c
      · subst e; simp [hv]
      · simp [e]
    have hT : ∀ r, H.sameT a c r = H.sameT b c r := fun r => by
      unfold HeapM.sameT HeapM.sizeB
      rw [h1, whole_of_kind hk, h2 a ka, h2 b kb, hk, hp, hi]
    intro f
    cases f with
    | zero => exact hT none
    | succ f =>
      rw [sameF_succ, sameF_succ, hT]
      unfold HeapM.inside
      simp only [hk, hp, hi, hg]
theorem same_symm (F : ∀ p ∈ H.objs, (p.2.pairs.map (·.1)).Nodup) : ∀ (f : Nat) {a b : V}, H.sameF f a b = some true → H.sameF f b a = some true
  | 0, a, b, h => by
    rcases sameT_true.1 h with h1 | ⟨_, _, _, h1⟩
    · exact sameF_one (oneB_symm h1) 0
    · cases h1
  | f + 1, a, b, h => by
    rw [sameF_succ] at h ⊢
    rcases sameT_true.1 h with h1 | ⟨hw, hk, hs, hr⟩
    · exact sameT_true.2 (.inl (oneB_symm h1))
    · refine sameT_true.2 (.inr ⟨by rw [← whole_of_kind hk]; exact hw, hk.symm, hs.symm, ?_⟩)
      by_cases h3 : H.kind a = 3
      · rw [inside_dict h3] at hr
        rw [inside_dict (by rw [← hk]; exact h3)]
        intro k hkb
        have hka := sub_back (keys_nd F a) (keys_nd F b) (fun x hx => get_key.2 (by obtain ⟨y, e, _⟩ := hr x hx; exact ⟨y, e⟩))
          (by rw [List.length_map, List.length_map]; unfold HeapM.sizeB at hs; rw [if_pos h3, if_pos (by rw [← hk]; exact h3)] at hs; omega) k hkb
        obtain ⟨y, e, h4⟩ := hr k hka
        obtain ⟨x, ex⟩ := get_key.1 hka
        rw [ex] at h4
        exact ⟨x, ex, by rw [e]; exact same_symm F f h4⟩
      · rw [inside_row h3] at hr
        rw [inside_row (by rw [← hk]; exact h3)]
        intro i x y hx hy
        exact same_symm F f (hr i y x hy hx)
theorem same_trans (F : ∀ p ∈ H.objs, (p.2.pairs.map (·.1)).Nodup) : ∀ (f : Nat) {a b c : V}, H.sameF f a b = some true → H.sameF f b c = some true → H.sameF f a c = some true := by
  have right : ∀ (f : Nat) {a b c : V}, H.sameF f a b = some true → H.oneB b c = true → H.sameF f a c = some true := fun f a b c h1 h2 => by
    have e := same_symm F f h1
    rw [same_left h2 f] at e
    exact same_symm F f e
  intro f
  induction f with
  | zero =>
    intro a b c h1 h2
    rcases sameT_true.1 h1 with h3 | ⟨_, _, _, h3⟩
    · rw [same_left h3]; exact h2
    · cases h3
  | succ f ih =>
    intro a b c h1 h2
    have k1 := h1
    have k2 := h2
    rw [sameF_succ] at h1 h2
    rcases sameT_true.1 h1 with h3 | ⟨hw, hk, hs, hr⟩
    · rw [same_left h3]; exact k2
    · rcases sameT_true.1 h2 with h3 | ⟨hw2, hk2, hs2, hr2⟩
      · exact right _ k1 h3
      · rw [sameF_succ]
        refine sameT_true.2 (.inr ⟨hw, hk.trans hk2, hs.trans hs2, ?_⟩)
        by_cases h3 : H.kind a = 3
        · rw [inside_dict h3] at hr ⊢
          rw [inside_dict (by rw [← hk]; exact h3)] at hr2
          intro k hka
          obtain ⟨y, e, h4⟩ := hr k hka
          obtain ⟨z, e2, h5⟩ := hr2 k (get_key.2 ⟨y, e⟩)
          rw [e] at h5
          exact ⟨z, e2, ih h4 h5⟩
        · rw [inside_row h3] at hr ⊢
          rw [inside_row (by rw [← hk]; exact h3)] at hr2
          intro i x z hx hz
          have hl : (H.items a).length = (H.items b).length := by
            unfold HeapM.sizeB at hs
            rw [if_neg h3, if_neg (by rw [← hk]; exact h3)] at hs
            exact hs
          have hi : i < (H.items b).length := by rw [← hl]; exact (List.getElem?_eq_some_iff.1 hx).1
          have hy : (H.items b)[i]? = some (H.items b)[i] := List.getElem?_eq_getElem hi
          exact ih (hr i x _ hx hy) (hr2 i _ z hy hz)
/-- Both ways about it is the same. -/
theorem same_turn (F : ∀ p ∈ H.objs, (p.2.pairs.map (·.1)).Nodup) {f : Nat} {a b : V} {r s : Bool} (h1 : H.sameF f a b = some r) (h2 : H.sameF f b a = some s) : r = s := by
  cases r with
  | true => rw [same_symm F f h1] at h2; exact (Option.some.inj h2)
  | false =>
    cases s with
    | false => rfl
    | true => rw [same_symm F f h2] at h1; cases h1
/-- What is equal to one of two that are equal is to the other one. -/
theorem same_both (F : ∀ p ∈ H.objs, (p.2.pairs.map (·.1)).Nodup) {f : Nat} {a b c : V} {r s : Bool} (h0 : H.sameF f a b = some true) (h1 : H.sameF f b c = some r) (h2 : H.sameF f a c = some s) : r = s := by
  cases r with
  | true => rw [same_trans F f h0 h1] at h2; exact (Option.some.inj h2)
  | false =>
    cases s with
    | false => rfl
    | true => rw [same_trans F f (same_symm F f h0) h2] at h1; cases h1
end
end Go.Proofs.YtellmfimmghidaaGreat
/- ch 16: made. -/
/- ch 16: what made makes, plain. -/
namespace Go.Proofs.YtellmfimmghidaaGreat
set_option linter.unusedSimpArgs false
open Go.RowKit
set_option linter.unusedVariables false
def kindO (p : ObjI) : Int := 1 + p.kind.tmod 12
theorem kindO_ok (p : ObjI) : okI (kindO p) := okI_of (by unfold kindO; have a := Int.tmod_lt_of_pos p.kind (show (0 : Int) < 12 by decide); have b := Int.lt_tmod_of_pos p.kind (show (0 : Int) < 12 by decide); omega)
def nmO (p : ObjI) : ObjM := ⟨kindO p, ⟨#[110, 109]⟩, 0, [], [], kindO_ok p, by decide, by decide⟩
def numV (i : Nat) : V := ⟨4, ((i % 16 : Nat) : Int) + 1, ⟨#[]⟩, by decide, okI_of (by omega), by decide⟩
def putsM (H : HeapM) (v : V) (ps : List (V × V)) : HeapM := ps.foldl (fun H p => H.put v (plainV p.1) (plainV p.2)) H
def madeA (l : List ObjI) : HeapM := l.foldl (fun H p => H.add (nmO p)) ⟨[], 0⟩
def itemsP (p : ObjI) : List V := (p.items.take 6).map plainV
def fillM (H : HeapM) (v : V) (p : ObjI) : HeapM := putsM (H.replace v 0 0 (itemsP p)) v (p.pairs.take 6)
def madeB (l : List ObjI) : Nat → HeapM
  | 0 => madeA l
  | k + 1 => match l[k]? with | some p => fillM (madeB l k) (numV k) p | none => madeB l k
/-- The objects of made. -/
def madeO (l : List ObjI) : HeapM := madeB (l.take 8) (l.take 8).length
theorem kindO_in {p : ObjI} {w : World} (h : p.In w) : 1 ≤ kindO p ∧ kindO p ≤ 12 := by
  have hb : 0 ≤ p.kind ∧ p.kind ≤ 255 := by
    have := h.1
    simp [Lit.wf, IntKind.min, IntKind.max, IntKind.bits, IntKind.signed] at this
    omega
  have a := Int.tmod_nonneg (12 : Int) hb.1
  have b := Int.tmod_lt_of_pos p.kind (show (0 : Int) < 12 by decide)
  unfold kindO
  omega
theorem itemsP_len (p : ObjI) : (itemsP p).length ≤ 6 := by unfold itemsP; rw [List.length_map, List.length_take]; omega
theorem madeA_next {l : List ObjI} {k : Nat} {p : ObjI} (h : l[k]? = some p) : madeA (l.take (k + 1)) = (madeA (l.take k)).add (nmO p) := by
  unfold madeA
  rw [List.take_add_one, h, List.foldl_append]; rfl
theorem puts_next {H : HeapM} {v : V} {l : List (V × V)} {k : Nat} {p : V × V} (h : l[k]? = some p) : putsM H v (l.take (k + 1)) = (putsM H v (l.take k)).put v (plainV p.1) (plainV p.2) := by
  unfold putsM
  rw [List.take_add_one, h, List.foldl_append]; rfl
theorem madeB_next {l : List ObjI} {k : Nat} {p : ObjI} (h : l[k]? = some p) : madeB l (k + 1) = fillM (madeB l k) (numV k) p := by
  rw [madeB]; simp only [h]
theorem madeA_fit {w : World} : ∀ (l : List ObjI) {H : HeapM} {N : Nat}, H.Fit N → (∀ p ∈ l, p.In w) → (l.foldl (fun H p => H.add (nmO p)) H).Fit (N + 2 * l.length)
  | [], H, N, F, _ => by simpa using F
  | p :: l, H, N, F, h => by
    have F1 := madeA_fit l (F.add (nmO p) (kindO_in (h p (List.mem_cons_self ..))) rfl) (fun q hq => h q (List.mem_cons_of_mem _ hq))
    refine F1.more ?_
    have e : (nmO p).items.length = 0 := rfl
    rw [e, List.length_cons]; omega
theorem puts_fit {v : V} : ∀ (l : List (V × V)) {H : HeapM} {N : Nat}, H.Fit N → (putsM H v l).Fit (N + l.length)
  | [], H, N, F => by simpa [putsM] using F
  | p :: l, H, N, F => (puts_fit l (F.put v (plainV p.1) (plainV p.2))).more (by rw [List.length_cons]; omega)
theorem fill_fit {H : HeapM} {N : Nat} (F : H.Fit N) (v : V) (p : ObjI) : (fillM H v p).Fit (N + 12) :=
  (puts_fit _ (F.replace v 0 0 (itemsP p))).more (by have := itemsP_len p; rw [List.length_take]; omega)
theorem madeB_fit {w : World} {l : List ObjI} (hl : l.length ≤ 8) (h : ∀ p ∈ l, p.In w) : ∀ k, (madeB l k).Fit (16 + 12 * k)
  | 0 => (madeA_fit l fit_empty h).more (by omega)
  | k + 1 => by
    rw [madeB]
    split
    · exact (fill_fit (madeB_fit hl h k) _ _).more (by omega)
    · exact (madeB_fit hl h k).more (by omega)
theorem madeB_fit' {w : World} {l : List ObjI} (hl : l.length ≤ 8) (h : ∀ p ∈ l, p.In w) {k : Nat} (hk : k ≤ 8) : (madeB l k).Fit 200 := (madeB_fit hl h k).more (by omega)
theorem madeO_fit {w : World} {l : List ObjI} (h : ∀ p ∈ l, p.In w) : (madeO l).Fit 200 :=
  madeB_fit' (by rw [List.length_take]; omega) (fun p hp => h p (List.mem_of_mem_take hp)) (by rw [List.length_take]; omega)
end Go.Proofs.YtellmfimmghidaaGreat
namespace Go.Proofs.YtellmfimmghidaaGreat
set_option linter.unusedSimpArgs false
open Go.RowKit
set_option linter.unusedVariables false
theorem seesV_nl (W : World) : SeesV W (.slice none 0 0) [] := ⟨none, 0, rfl, Nat.le_refl _, by unfold maxLen; omega, .inl rfl⟩
theorem lref_v (W : World) (v : V) (h4 : v.kind = 4) (hs : v.s = ⟨#[]⟩) : Calls Tryz.prog 61 #[.int .i64 v.n] W fun e W' => e = .returned (.agg #[.int .i64 v.kind, .int .i64 v.n, .string v.s]) ∧ Below W.heap.size W W' := by
  rw [h4, hs]
  obtain ⟨n, hn⟩ : ∃ n, n = v.n := ⟨_, rfl⟩
  rw [← hn]
  clear hn h4 hs
  go_enter Tryz.func61, Tryz.ntmps61
  go_wp2
  exact bodyPost_ret (v := .agg #[.int .i64 4, .int .i64 n, .string ⟨#[]⟩]) (by simp [results, Tryz.results61, go_sem]) rfl ⟨rfl, by (repeat (first | exact Below.refl _ _ | assumption | refine Below.drewN ?_ _ | refine Below.drew ?_ | refine Below.alloc ?_ (by (try simp only [World.size_alloc, size_drewN, size_setCell]); omega) _ | refine Below.setCell ?_ (by (try simp only [World.size_alloc, size_drewN, size_setCell]); omega) _))⟩
attribute [local irreducible] wpSeqS wpAnyS wpPreS
section
variable {w W : World} {Rs : List Res}
set_option maxRecDepth 100000 in
set_option maxHeartbeats 12800000 in
theorem made16_ok (S : Sep w Rs W) (sl : Value) (l : List ObjI) (hs : SeesO w sl l) : Calls Tryz.prog 27 #[sl] W fun e W' => ∃ h y : Nat, e = .returned (.tuple #[.pointer (some ⟨h, 0, none⟩), .pointer (some ⟨y, 0, none⟩)]) ∧ Sep w (heapR h (madeO l) :: refR y (madeO l) :: Rs) W' := by
  obtain ⟨L, hL⟩ : ∃ L, L = l.take 8 := ⟨_, rfl⟩
  have hO : madeO l = madeB L L.length := by unfold madeO; rw [← hL]
  rw [hO]
  have hn8 : L.length ≤ 8 := by rw [hL, List.length_take]; omega
  have hnl : L.length ≤ l.length := by rw [hL, List.length_take]; omega
  have hat : ∀ (i : Nat) (p : ObjI), L[i]? = some p → l[i]? = some p := fun i p hp => by
    rw [hL, List.getElem?_take] at hp; split at hp <;> first | exact hp | cases hp
  have hinL : ∀ p ∈ L, p.In w := fun p hp => hs.2 p (by rw [hL] at hp; exact List.mem_of_mem_take hp)
  obtain ⟨⟨a0, c0, rfl, q1, q2, q3⟩, hin⟩ := hs
  have hll : (l.length : Int) ≤ 9223372036854775807 := by unfold maxLen at q2; omega
  have he : (if (8 : Int) < (l.length : Int) then (8 : Int) else (l.length : Int)) = (L.length : Int) := by rw [hL, List.length_take]; split <;> omega
  have he2 : min (l.length : Int) 8 = (L.length : Int) := by rw [hL, List.length_take]; omega
  have HQ := Lib.hid q3
  have HAT := Lib.hid hat
  have HIN := Lib.hid hinL
  have HN8 := Lib.hid (And.intro hn8 hnl)
  have FA : Hid (∀ k, (madeA (L.take k)).Fit 200) := Lib.hid fun k => (madeA_fit (w := w) (L.take k) fit_empty (fun p hp => hinL p (List.mem_of_mem_take hp))).more (by rw [List.length_take]; omega)
  have FB : Hid (∀ k, k ≤ 8 → (madeB L k).Fit 200) := Lib.hid fun k hk => madeB_fit' hn8 hinL hk
  clear hL hO q1 q2 q3 hin hat hinL hn8 hnl
  have M := Lib.hid S.new
  clear S
  go_enter Tryz.func27, Tryz.ntmps27
  go_wp2_with fail
  refine M.out.mono ?_
  rintro e w1 ⟨h, rfl, S, -⟩
  clear M
  replace S : Sep w (heapR h ⟨[], 0⟩ :: Rs) w1 := S
  refine named (heapR h ⟨[], 0⟩ :: Rs : List Res) fun b2_2 hb2_2 => ?_
  have Hb2_2 := Lib.hid hb2_2
  have Kb2_2 : Hid (∀ W (Q : List Res), Sep w (Q ++ b2_2) W → True) := Lib.hid fun W Q T => by
    rw [hb2_2] at T
    trivial
  replace S := Lib.hid S
  clear hb2_2
  go_upto_region 2 with fail
  have S1 : Sep w ([] ++ b2_2) (w1) := by rw [Hb2_2.out]; exact S.out
  clear S
  refine regionL (E := [emptyR]) (base := b2_2) (Sep.putE S1) ?_
  clear S1
  refine quietL ?_
  simp only [Act.put, pa]; try dsimp only [List.set]
  refine stepL (fun v E1 => ∃ (q_4_1 : Nat), v = .pointer (some ⟨q_4_1, 0, none⟩) ∧ E1 = [refR q_4_1 ⟨[], 0⟩]) (h1 := fun Wx hSw => by (go_simp; exact ⟨_, ⟨_, rfl, rfl⟩, (refNew hSw).into 0 rfl⟩)) (h2 := fun v E1 hvE => ?_)
  obtain ⟨q_4_1, rfl, rfl⟩ := hvE
  simp only [Act.put, pa]; try dsimp only [List.set]
  refine quietL ?_
  simp only [Act.put, pa]; try dsimp only [List.set]
  refine doneL (h := fun w4 S => ?_)
  replace S : Sep w (refR q_4_1 ⟨[], 0⟩ :: heapR h ⟨[], 0⟩ :: Rs) w4 := by rw [Hb2_2.out] at S; exact S
  clear Hb2_2 Kb2_2
  refine named (refR q_4_1 ⟨[], 0⟩ :: heapR h ⟨[], 0⟩ :: Rs : List Res) fun b3_4 hb3_4 => ?_
  have Hb3_4 := Lib.hid hb3_4
  have Kb3_4 : Hid (∀ W (Q : List Res), Sep w (Q ++ b3_4) W → True) := Lib.hid fun W Q T => by
    rw [hb3_4] at T
    trivial
  replace S := Lib.hid S
  clear hb3_4
  go_upto_region 3 with fail
  have S1 : Sep w ([] ++ b3_4) (w4) := by rw [Hb3_4.out]; exact S.out
  clear S
  refine regionL (E := []) (base := b3_4) S1 ?_
  clear S1
  iterate 2 (refine quietL ?_; simp only [Act.put, pa]; try dsimp only [List.set])
  refine quietL (v := .int .i64 L.length) (hy := fun E Wx hSw => by (go_simp; exact ⟨rfl, hSw⟩)) (h := ?_)
  simp only [Act.put, pa]; try dsimp only [List.set]
  refine quietL ?_
  simp only [Act.put, pa]; try dsimp only [List.set]
  refine doneL (h := fun w6 S => ?_)
  replace S : Sep w (refR q_4_1 ⟨[], 0⟩ :: heapR h ⟨[], 0⟩ :: Rs) w6 := by rw [Hb3_4.out] at S; exact S
  clear Hb3_4 Kb3_4
  clear he he2
  replace S := Lib.hid S
  go_wp2
  go_loopw [7] (fun s7 wr => ∃ k : Nat, k ≤ L.length ∧ s7 = .int .i64 k ∧ Sep w ([heapR h (madeA (L.take k)), refR q_4_1 (madeA (L.take k))] ++ Rs) wr) (fun s7 _ => L.length - (intOf s7).toNat)
  case atStart => exact ⟨0, Nat.zero_le _, rfl, S.out.perm (List.Perm.swap _ _ _)⟩
  case round =>
    obtain ⟨k, hk, rfl, S⟩ := hrel
    have HK := Lib.hid hk
    by_cases hlt : k < L.length
    ·
      obtain ⟨p, hp⟩ : ∃ p, L[k]? = some p := ⟨L[k], by simp [hlt]⟩
      have hpl := HAT.out k p hp
      obtain ⟨g, og, rfl, hc⟩ : ∃ g og, a0 = some ⟨g, og, none⟩ ∧ ∀ i (p : ObjI), l[i]? = some p → ∀ (j : Nat) (u : Value), p.cells[j]? = some u → w.cell? ⟨g, og + i * 3 + j, none⟩ = some u := by
        rcases HQ.out with e | e
        · subst e; simp at hpl
        · exact e
      have hpin := HIN.out p (List.mem_iff_getElem?.2 ⟨_, hp⟩)
      have HPIN := Lib.hid hpin
      have HPP := Lib.hid hp
      have hlt1 : (k : Int) < L.length := by omega
      have hlt2 : (k : Int) < l.length := by have := HN8.out; omega
      have H0 := Lib.hid (hc k p hpl 0 (.int .u8 p.kind) rfl)
      obtain ⟨m, hm, hmb⟩ := rest_of (n := 12) (byte_range hpin.1).1 (by decide)
      replace hm : p.kind.tmod 12 = (m : Int) := hm
      have hw1 : IntKind.i64.wrap (m : Int) = (m : Int) := IntWalk.i64_in _ (by omega)
      have hw2 : IntKind.i64.wrap (1 + (m : Int)) = kindO p := by unfold kindO; rw [hm]; exact IntWalk.i64_in _ (by omega)
      have HNX := Lib.hid (madeA_next hp)
      have HLT := Lib.hid hlt
      have HKI := Lib.hid (kindO_in hpin)
      clear hk hpl hc hpin hmb hp hlt
      replace S : Sep w (heapR h (madeA (L.take k)) :: refR q_4_1 (madeA (L.take k)) :: Rs) wr := S
      refine named (heapR h (madeA (L.take k)) :: refR q_4_1 (madeA (L.take k)) :: Rs : List Res) fun b7_20 hb7_20 => ?_
      have Hb7_20 := Lib.hid hb7_20
      have Kb7_20 : Hid (∀ W (Q : List Res), Sep w (Q ++ b7_20) W → True) := Lib.hid fun W Q T => by
        rw [hb7_20] at T
        trivial
      have B0 : Hid (∀ W (Q : List Res), Sep w (Q ++ b7_20) W → W.cell? ⟨g, og + k * 3, none⟩ = some (.int .u8 p.kind)) := Lib.hid fun W Q T => cellBelow H0.out T.below
      replace S := Lib.hid S
      clear hb7_20
      go_upto_region 7 with fail
      have S1 : Sep w ([] ++ b7_20) (wr) := by rw [Hb7_20.out]; exact S.out
      clear S
      refine regionL (E := []) (base := b7_20) S1 ?_
      clear S1
      iterate 4 (refine quietL ?_; simp only [Act.put, pa]; try dsimp only [List.set])
      refine quietLC B0 ?_
      simp only [Act.put, pa]; try dsimp only [List.set]
      iterate 4 (refine quietL ?_; simp only [Act.put, pa]; try dsimp only [List.set])
      refine doneL (h := fun w22 S => ?_)
      replace S : Sep w (heapR h (madeA (L.take k)) :: refR q_4_1 (madeA (L.take k)) :: Rs) w22 := by rw [Hb7_20.out] at S; exact S
      clear Hb7_20 Kb7_20 B0
      clear hm hw1 hw2
      refine named (heapR h (madeA (L.take k)) :: refR q_4_1 (madeA (L.take k)) :: Rs : List Res) fun b8_22 hb8_22 => ?_
      have Hb8_22 := Lib.hid hb8_22
      have Kb8_22 : Hid (∀ W (Q : List Res), Sep w (Q ++ b8_22) W → True) := Lib.hid fun W Q T => by
        rw [hb8_22] at T
        trivial
      replace S := Lib.hid S
      clear hb8_22
      go_upto_region 8 with fail
      have S1 : Sep w ([] ++ b8_22) (w22) := by rw [Hb8_22.out]; exact S.out
      clear S
      refine regionL (E := []) (base := b8_22) S1 ?_
      clear S1
      iterate 2 (refine quietL ?_; simp only [Act.put, pa]; try dsimp only [List.set])
      refine doneL (h := fun w24 S => ?_)
      replace S : Sep w (heapR h (madeA (L.take k)) :: refR q_4_1 (madeA (L.take k)) :: Rs) w24 := by rw [Hb8_22.out] at S; exact S
      clear Hb8_22 Kb8_22
      replace S : Sep w (heapR h (madeA (L.take k)) :: refR q_4_1 (madeA (L.take k)) :: Rs) (w24) := by
        refine (show Sep w ([heapR h (madeA (L.take k)), refR q_4_1 (madeA (L.take k))] ++ Rs) _ from S).perm ?_
        exact List.Perm.append_right Rs (perm_of (l := [heapR h (madeA (L.take k)), refR q_4_1 (madeA (L.take k))]) [0, 1] (by show (List.range' 0 2).Perm [0, 1]; decide) (by rfl))
      refine named (refR q_4_1 (madeA (L.take k)) :: Rs : List Res) fun b9_24 hb9_24 => ?_
      have Hb9_24 := Lib.hid hb9_24
      have Kb9_24 : Hid (∀ W (Q : List Res), Sep w (Q ++ b9_24) W → True) := Lib.hid fun W Q T => by
        rw [hb9_24] at T
        trivial
      replace S := Lib.hid S
      clear hb9_24
      go_upto_region 9 with fail
      have S1 : Sep w ([heapR h (madeA (L.take k))] ++ b9_24) (w24) := by rw [Hb9_24.out]; exact S.out
      clear S
      refine regionL (E := [heapR h (madeA (L.take k))]) (base := b9_24) S1 ?_
      clear S1
      iterate 2 (refine quietL ?_; simp only [Act.put, pa]; try dsimp only [List.set])
      refine detL (.agg #[.int .i64 4, .int .i64 ((madeA (L.take k)).last + 1), .string ⟨#[]⟩]) [heapR h (madeA (L.take (k + 1)))] (h1 := fun Wx hSw => by (go_simp; refine symCall ?_; have hh := hSw.make 0 rfl (FA.out k).G (by decide) (nmO p) (.slice none 0 0) (seesV_nl _) (show 0 ≤ 4194304 by decide) rfl HKI.out.1 HKI.out.2; rw [← HNX.out] at hh; exact hh)) (h2 := ?_)
      simp only [Act.put, pa]; try dsimp only [List.set]
      refine doneL (h := fun w26 S => ?_)
      replace S : Sep w (heapR h (madeA (L.take (k + 1))) :: refR q_4_1 (madeA (L.take k)) :: Rs) w26 := by rw [Hb9_24.out] at S; exact S
      clear Hb9_24 Kb9_24
      replace S : Sep w (refR q_4_1 (madeA (L.take k)) :: heapR h (madeA (L.take (k + 1))) :: Rs) (w26) := by
        refine (show Sep w ([heapR h (madeA (L.take (k + 1))), refR q_4_1 (madeA (L.take k))] ++ Rs) _ from S).perm ?_
        exact List.Perm.append_right Rs (perm_of (l := [heapR h (madeA (L.take (k + 1))), refR q_4_1 (madeA (L.take k))]) [1, 0] (by show (List.range' 0 2).Perm [1, 0]; decide) (by rfl))
      refine named (heapR h (madeA (L.take (k + 1))) :: Rs : List Res) fun b10_26 hb10_26 => ?_
      have Hb10_26 := Lib.hid hb10_26
      have Kb10_26 : Hid (∀ W (Q : List Res), Sep w (Q ++ b10_26) W → True) := Lib.hid fun W Q T => by
        rw [hb10_26] at T
        trivial
      replace S := Lib.hid S
      clear hb10_26
      go_upto_region 10 with fail
      have S1 : Sep w ([refR q_4_1 (madeA (L.take k))] ++ b10_26) (w26) := by rw [Hb10_26.out]; exact S.out
      clear S
      refine regionL (E := [refR q_4_1 (madeA (L.take k))]) (base := b10_26) S1 ?_
      clear S1
      iterate 2 (refine quietL ?_; simp only [Act.put, pa]; try dsimp only [List.set])
      refine detL (.agg #[.int .i64 4, .int .i64 ((madeA (L.take k)).last + 1), .string ⟨#[]⟩]) [refR q_4_1 (madeA (L.take (k + 1)))] (h1 := fun Wx hSw => by (go_simp; refine symCall ?_; have hh := hSw.yMake 0 rfl (FA.out k).G (nmO p) rfl HKI.out.1 HKI.out.2 (.slice none 0 0) (fun W1 _ => seesV_nl W1) (by decide) (show 0 ≤ 4000000 by decide); rw [← HNX.out] at hh; exact hh)) (h2 := ?_)
      simp only [Act.put, pa]; try dsimp only [List.set]
      refine doneL (h := fun w28 S => ?_)
      replace S : Sep w (refR q_4_1 (madeA (L.take (k + 1))) :: heapR h (madeA (L.take (k + 1))) :: Rs) w28 := by rw [Hb10_26.out] at S; exact S
      clear Hb10_26 Kb10_26
      replace S : Sep w ([heapR h (madeA (L.take (k + 1))), refR q_4_1 (madeA (L.take (k + 1)))] ++ Rs) (w28) := by
        refine (show Sep w ([refR q_4_1 (madeA (L.take (k + 1))), heapR h (madeA (L.take (k + 1)))] ++ Rs) _ from S).perm ?_
        exact List.Perm.append_right Rs (perm_of (l := [refR q_4_1 (madeA (L.take (k + 1))), heapR h (madeA (L.take (k + 1)))]) [1, 0] (by show (List.range' 0 2).Perm [1, 0]; decide) (by rfl))
      have hi1 : IntKind.i64.wrap ((k : Int) + 1) = (k : Int) + 1 := IntWalk.i64_in _ (by have := HN8.out; omega)
      replace S := Lib.hid S
      go_wp2
      exact ⟨⟨k + 1, HLT.out, by go_num, S.out⟩, by have := HLT.out; simp [intOf]; omega⟩
    ·
      obtain rfl : k = L.length := by omega
      have hnot : ¬ ((L.length : Int) < L.length) := by omega
      rw [List.take_length] at S
      clear hlt hk HK
      replace S : Sep w ([heapR h (madeB L 0), refR q_4_1 (madeB L 0)] ++ Rs) wr := S
      replace S := Lib.hid S
      go_wp2
      go_loopw [9] (fun s9 wr => ∃ i : Nat, i ≤ L.length ∧ s9 = .int .i64 i ∧ Sep w ([heapR h (madeB L i), refR q_4_1 (madeB L i)] ++ Rs) wr) (fun s9 _ => L.length - (intOf s9).toNat)
      case atStart => exact ⟨0, Nat.zero_le _, rfl, S.out⟩
      case round =>
        obtain ⟨i, hi, rfl, S⟩ := hrel
        by_cases hlt : i < L.length
        ·
          obtain ⟨p, hp⟩ : ∃ p, L[i]? = some p := ⟨L[i], by simp [hlt]⟩
          have hpl := HAT.out i p hp
          obtain ⟨g, og, rfl, hc⟩ : ∃ g og, a0 = some ⟨g, og, none⟩ ∧ ∀ i (p : ObjI), l[i]? = some p → ∀ (j : Nat) (u : Value), p.cells[j]? = some u → w.cell? ⟨g, og + i * 3 + j, none⟩ = some u := by
            rcases HQ.out with e | e
            · subst e; simp at hpl
            · exact e
          have hpin := HIN.out p (List.mem_iff_getElem?.2 ⟨_, hp⟩)
          have HPIN := Lib.hid hpin
          have HPP := Lib.hid hp
          have hlt1 : (i : Int) < L.length := by omega
          have hlt2 : (i : Int) < l.length := by have := HN8.out; omega
          obtain ⟨ia, ic, hiv, hi1, hi2, hi3⟩ := hpin.2.1
          obtain ⟨pad, pc, hpv, hp1, hp2, hp3⟩ := hpin.2.2
          have H1 := Lib.hid (show w.cell? ⟨g, og + i * 3 + 1, none⟩ = some (.slice ia p.items.length ic) by rw [← hiv]; exact hc i p hpl 1 _ rfl)
          have H2 := Lib.hid (show w.cell? ⟨g, og + i * 3 + 2, none⟩ = some (.slice pad p.pairs.length pc) by rw [← hpv]; exact hc i p hpl 2 _ rfl)
          have HI3 := Lib.hid hi3
          have HP3 := Lib.hid hp3
          have hil : (p.items.length : Int) ≤ 9223372036854775807 := by unfold maxLen at hi2; omega
          have hpll : (p.pairs.length : Int) ≤ 9223372036854775807 := by unfold maxLen at hp2; omega
          obtain ⟨v, hv⟩ : ∃ v, v = numV i := ⟨_, rfl⟩
          have hv4 : v.kind = 4 := by rw [hv]; rfl
          have hvs : v.s = ⟨#[]⟩ := by rw [hv]; rfl
          have hvn : v.n = (i : Int) + 1 := by rw [hv]; show ((i % 16 : Nat) : Int) + 1 = _; have := HN8.out; omega
          have hwi : IntKind.i64.wrap ((i : Int) + 1) = v.n := by rw [hvn]; exact IntWalk.i64_in _ (by have := HN8.out; omega)
          have HV := Lib.hid (And.intro hv4 hvs)
          have HNX : Hid (madeB L (i + 1) = fillM (madeB L i) v p) := Lib.hid (by rw [hv]; exact madeB_next hp)
          have FI := Lib.hid (FB.out i (by have := HN8.out; omega))
          have HLT := Lib.hid hlt
          clear hi hpl hc hpin hiv hi1 hi2 hi3 hpv hp1 hp2 hp3 hp hlt hv hv4 hvs hvn
          replace S : Sep w (heapR h (madeB L i) :: refR q_4_1 (madeB L i) :: Rs) wr := S
          refine named (heapR h (madeB L i) :: refR q_4_1 (madeB L i) :: Rs : List Res) fun b14_100 hb14_100 => ?_
          have Hb14_100 := Lib.hid hb14_100
          have Kb14_100 : Hid (∀ W (Q : List Res), Sep w (Q ++ b14_100) W → True) := Lib.hid fun W Q T => by
            rw [hb14_100] at T
            trivial
          have K14_2 : KC w b14_100 61 #[.int .i64 v.n] (.agg #[.int .i64 v.kind, .int .i64 v.n, .string v.s]) := Lib.hid fun W Q T => by
            exact (lref_v W v HV.out.1 HV.out.2).mono fun e W' ⟨e1, e2⟩ => ⟨e1, T.later e2⟩
          replace S := Lib.hid S
          clear hb14_100
          go_upto_region 14 with fail
          have S1 : Sep w ([] ++ b14_100) (wr) := by rw [Hb14_100.out]; exact S.out
          clear S
          refine regionL (E := [emptyR]) (base := b14_100) (Sep.putE S1) ?_
          clear S1
          iterate 2 (refine quietL ?_; simp only [Act.put, pa]; try dsimp only [List.set])
          refine quietLK K14_2 ?_
          simp only [Act.put, pa]; try dsimp only [List.set]
          refine allocL 0 rfl (fun q => .pointer (some ⟨q, 0, none⟩)) (.cells #[.int .i64 0, .int .i64 0, .string ⟨#[]⟩] 29) (h1 := fun Wx => by go_simp) (h2 := fun qv101 => ?_)
          simp only [Act.put, pa]; try dsimp only [List.set]
          try simp only [List.set_cons_zero, List.set_cons_succ]
          refine detL undef [boxV qv101 v] (h1 := fun Wx hSw => by (have hz := hSw.box (b := qv101) (o := objZ) 0 rfl; refine useZ3 hz fun z0 z1 z2 y0 y1 y2 => ?_; go_simp; exact ⟨rfl, hSw.set3 0 rfl (.int .i64 v.kind) (.int .i64 v.n) (.string v.s)⟩)) (h2 := ?_)
          simp only [Act.put, pa]; try dsimp only [List.set]
          refine doneL (h := fun w102 S => ?_)
          replace S : Sep w (boxV qv101 v :: heapR h (madeB L i) :: refR q_4_1 (madeB L i) :: Rs) w102 := by rw [Hb14_100.out] at S; exact S
          clear Hb14_100 Kb14_100 K14_2
          clear hwi
          refine named (boxV qv101 v :: heapR h (madeB L i) :: refR q_4_1 (madeB L i) :: Rs : List Res) fun b15_102 hb15_102 => ?_
          have Hb15_102 := Lib.hid hb15_102
          have Kb15_102 : Hid (∀ W (Q : List Res), Sep w (Q ++ b15_102) W → True) := Lib.hid fun W Q T => by
            rw [hb15_102] at T
            trivial
          replace S := Lib.hid S
          clear hb15_102
          go_upto_region 15 with fail
          have S1 : Sep w ([] ++ b15_102) (w102) := by rw [Hb15_102.out]; exact S.out
          clear S
          refine regionL (E := [emptyR]) (base := b15_102) (Sep.putE S1) ?_
          clear S1
          refine stepL (fun v E1 => ∃ (q_104_1 : Nat), v = .slice (some ⟨q_104_1, 0, none⟩) 0 0 ∧ E1 = [valsR (.slice (some ⟨q_104_1, 0, none⟩) 0 0) []]) (h1 := fun Wx hSw => by (go_simp; exact ⟨_, ⟨_, rfl, rfl⟩, (hSw.madeRow V.cells 3 29).into 0 rfl⟩)) (h2 := fun v E1 hvE => ?_)
          obtain ⟨q_104_1, rfl, rfl⟩ := hvE
          simp only [Act.put, pa]; try dsimp only [List.set]
          refine quietL ?_
          simp only [Act.put, pa]; try dsimp only [List.set]
          refine doneL (h := fun w104 S => ?_)
          replace S : Sep w (valsR (.slice (some ⟨q_104_1, 0, none⟩) 0 0) [] :: boxV qv101 v :: heapR h (madeB L i) :: refR q_4_1 (madeB L i) :: Rs) w104 := by rw [Hb15_102.out] at S; exact S
          clear Hb15_102 Kb15_102
          replace S := Lib.hid S
          go_wp2
          go_loopw [11, 12] (fun s11 s12 wr => ∃ (k : Nat) (a : Option Addr) (cp : Nat), Hid (k ≤ p.items.length ∧ k ≤ 6) ∧ s11 = .slice a k cp ∧ s12 = .int .i64 k ∧ Sep w ([valsR (.slice a k cp) ((p.items.take k).map plainV), boxV qv101 v, heapR h (madeB L i), refR q_4_1 (madeB L i)] ++ Rs) wr) (fun _ s12 _ => 6 - (intOf s12).toNat)
          case atStart => exact ⟨0, _, _, Lib.hid ⟨Nat.zero_le _, Nat.zero_le _⟩, rfl, rfl, S.out⟩
          case round =>
            obtain ⟨k, a, cp, HI, rfl, rfl, S⟩ := hrel
            by_cases hgo : k < p.items.length ∧ k < 6
            ·
              obtain ⟨g1, g2⟩ := hgo
              have hc1 : (k : Int) < p.items.length := by omega
              have hc2 : (k : Int) < 6 := by omega
              obtain ⟨x, hx⟩ : ∃ x, p.items[k]? = some x := ⟨p.items[k], by simp [g1]⟩
              obtain ⟨gi, oi, rfl, hci⟩ : ∃ gi oi, ia = some ⟨gi, oi, none⟩ ∧ ∀ i v, p.items[i]? = some v → w.cell? ⟨gi, oi + i * 3, none⟩ = some (.int .i64 v.kind) ∧ w.cell? ⟨gi, oi + i * 3 + 1, none⟩ = some (.int .i64 v.n) ∧ w.cell? ⟨gi, oi + i * 3 + 2, none⟩ = some (.string v.s) := by
                rcases HI3.out with e | e
                · rw [e] at hx; simp at hx
                · exact e
              have HC := Lib.hid (hci k x hx)
              have HXX := Lib.hid hx
              have HG := Lib.hid (And.intro g1 g2)
              clear hx hci g1 g2
              replace S : Sep w (valsR (.slice a k cp) ((p.items.take k).map plainV) :: boxV qv101 v :: heapR h (madeB L i) :: refR q_4_1 (madeB L i) :: Rs) wr := S
              refine named (valsR (.slice a k cp) ((p.items.take k).map plainV) :: boxV qv101 v :: heapR h (madeB L i) :: refR q_4_1 (madeB L i) :: Rs : List Res) fun b17_200 hb17_200 => ?_
              have Hb17_200 := Lib.hid hb17_200
              have Kb17_200 : Hid (∀ W (Q : List Res), Sep w (Q ++ b17_200) W → True) := Lib.hid fun W Q T => by
                rw [hb17_200] at T
                trivial
              have B1 : Hid (∀ W (Q : List Res), Sep w (Q ++ b17_200) W → W.cell? ⟨g, og + i * 3 + 1, none⟩ = some (.slice (some ⟨gi, oi, none⟩) p.items.length ic)) := Lib.hid fun W Q T => cellBelow H1.out T.below
              replace S := Lib.hid S
              clear hb17_200
              go_upto_region 17 with fail
              have S1 : Sep w ([] ++ b17_200) (wr) := by rw [Hb17_200.out]; exact S.out
              clear S
              refine regionL (E := []) (base := b17_200) S1 ?_
              clear S1
              iterate 5 (refine quietL ?_; simp only [Act.put, pa]; try dsimp only [List.set])
              refine quietLC B1 ?_
              simp only [Act.put, pa]; try dsimp only [List.set]
              iterate 6 (refine quietL ?_; simp only [Act.put, pa]; try dsimp only [List.set])
              refine doneL (h := fun w202 S => ?_)
              replace S : Sep w (valsR (.slice a k cp) ((p.items.take k).map plainV) :: boxV qv101 v :: heapR h (madeB L i) :: refR q_4_1 (madeB L i) :: Rs) w202 := by rw [Hb17_200.out] at S; exact S
              clear Hb17_200 Kb17_200 B1
              replace S : Sep w (valsR (.slice a k cp) ((p.items.take k).map plainV) :: boxV qv101 v :: heapR h (madeB L i) :: refR q_4_1 (madeB L i) :: Rs) (w202) := by
                refine (show Sep w ([valsR (.slice a k cp) ((p.items.take k).map plainV), boxV qv101 v, heapR h (madeB L i), refR q_4_1 (madeB L i)] ++ Rs) _ from S).perm ?_
                exact List.Perm.append_right Rs (perm_of (l := [valsR (.slice a k cp) ((p.items.take k).map plainV), boxV qv101 v, heapR h (madeB L i), refR q_4_1 (madeB L i)]) [0, 1, 2, 3] (by show (List.range' 0 4).Perm [0, 1, 2, 3]; decide) (by rfl))
              refine named (boxV qv101 v :: heapR h (madeB L i) :: refR q_4_1 (madeB L i) :: Rs : List Res) fun b19_202 hb19_202 => ?_
              have Hb19_202 := Lib.hid hb19_202
              have Kb19_202 : Hid (∀ W (Q : List Res), Sep w (Q ++ b19_202) W → True) := Lib.hid fun W Q T => by
                rw [hb19_202] at T
                trivial
              have K19_9 : KC w b19_202 28 #[agV x] (.agg #[.int .i64 (plainV x).kind, .int .i64 (plainV x).n, .string (plainV x).s]) := Lib.hid fun W Q T => by
                rw [Hb19_202.out] at T ⊢
                exact lplain_ok T x
              have B1 : Hid (∀ W (Q : List Res), Sep w (Q ++ b19_202) W → W.cell? ⟨g, og + i * 3 + 1, none⟩ = some (.slice (some ⟨gi, oi, none⟩) p.items.length ic)) := Lib.hid fun W Q T => cellBelow H1.out T.below
              have BX : Hid (∀ W (Q : List Res), Sep w (Q ++ b19_202) W → W.cell? ⟨gi, oi + k * 3, none⟩ = some (.int .i64 x.kind) ∧ W.cell? ⟨gi, oi + k * 3 + 1, none⟩ = some (.int .i64 x.n) ∧ W.cell? ⟨gi, oi + k * 3 + 2, none⟩ = some (.string x.s)) := Lib.hid fun W Q T => ⟨cellBelow HC.out.1 T.below, cellBelow HC.out.2.1 T.below, cellBelow HC.out.2.2 T.below⟩
              replace S := Lib.hid S
              clear hb19_202
              go_upto_region 19 with fail
              have S1 : Sep w ([valsR (.slice a k cp) ((p.items.take k).map plainV)] ++ b19_202) (w202) := by rw [Hb19_202.out]; exact S.out
              clear S
              refine regionL (E := [emptyR, valsR (.slice a k cp) ((p.items.take k).map plainV)]) (base := b19_202) (Sep.putE S1) ?_
              clear S1
              iterate 5 (refine quietL ?_; simp only [Act.put, pa]; try dsimp only [List.set])
              refine quietLC B1 ?_
              simp only [Act.put, pa]; try dsimp only [List.set]
              iterate 2 (refine quietL ?_; simp only [Act.put, pa]; try dsimp only [List.set])
              refine quietLC BX ?_
              simp only [Act.put, pa]; try dsimp only [List.set]
              refine quietLK K19_9 ?_
              simp only [Act.put, pa]; try dsimp only [List.set]
              refine allocL 0 rfl (fun q => .slice (some ⟨q, 0, none⟩) 1 1) (.cells #[.int .i64 (plainV x).kind, .int .i64 (plainV x).n, .string (plainV x).s] 29) (h1 := fun Wx => by go_simp) (h2 := fun qQ1 => ?_)
              simp only [Act.put, pa]; try dsimp only [List.set]
              try simp only [List.set_cons_zero, List.set_cons_succ]
              refine stepL (fun v E1 => ∃ (va_204_2 : Option Addr) (vc_204_2 : Nat), v = .slice va_204_2 (k + 1) vc_204_2 ∧ E1 = [boxV qQ1 (plainV x), valsR (.slice va_204_2 (k + 1) vc_204_2) ((p.items.take k).map plainV ++ [plainV x])]) (h1 := fun Wx hSw => by (have e0 : ((p.items.take k).map plainV).length = k := (by rw [List.length_map, List.length_take]; have := HG.out; omega); obtain ⟨va, vc, w2, hr, S2⟩ := hSw.appendV 1 rfl e0 (ys := [plainV x]) (seesOneV (hSw.box (b := qQ1) 0 rfl)).vals (k + 1) rfl (by have := HG.out; omega); exact symAppend _ _ _ _ rfl _ _ rfl rfl hr ⟨_, ⟨va, vc, rfl, rfl⟩, S2⟩)) (h2 := fun v E1 hvE => ?_)
              obtain ⟨va_204_2, vc_204_2, rfl, rfl⟩ := hvE
              simp only [Act.put, pa]; try dsimp only [List.set]
              refine quietL ?_
              simp only [Act.put, pa]; try dsimp only [List.set]
              refine doneL (h := fun w204 S => ?_)
              replace S : Sep w (boxV qQ1 (plainV x) :: valsR (.slice va_204_2 (k + 1) vc_204_2) ((p.items.take k).map plainV ++ [plainV x]) :: boxV qv101 v :: heapR h (madeB L i) :: refR q_4_1 (madeB L i) :: Rs) w204 := by rw [Hb19_202.out] at S; exact S
              clear Hb19_202 Kb19_202 K19_9 B1 BX
              replace S : Sep w ([boxV qQ1 (plainV x), valsR (.slice va_204_2 (k + 1) vc_204_2) ((p.items.take k).map plainV ++ [plainV x]), boxV qv101 v, heapR h (madeB L i), refR q_4_1 (madeB L i)] ++ Rs) (w204) := by
                refine (show Sep w ([boxV qQ1 (plainV x), valsR (.slice va_204_2 (k + 1) vc_204_2) ((p.items.take k).map plainV ++ [plainV x]), boxV qv101 v, heapR h (madeB L i), refR q_4_1 (madeB L i)] ++ Rs) _ from S).perm ?_
                exact List.Perm.append_right Rs (perm_of (l := [boxV qQ1 (plainV x), valsR (.slice va_204_2 (k + 1) vc_204_2) ((p.items.take k).map plainV ++ [plainV x]), boxV qv101 v, heapR h (madeB L i), refR q_4_1 (madeB L i)]) [0, 1, 2, 3, 4] (by show (List.range' 0 5).Perm [0, 1, 2, 3, 4]; decide) (by rfl))
              iterate 1 replace S := S.tail
              replace S : Sep w (valsR (.slice va_204_2 (k + 1) vc_204_2) ((p.items.take k).map plainV ++ [plainV x]) :: boxV qv101 v :: heapR h (madeB L i) :: refR q_4_1 (madeB L i) :: Rs) (w204) := S
              have e2 : (p.items.take k).map plainV ++ [plainV x] = (p.items.take (k + 1)).map plainV := by rw [List.take_add_one, HXX.out]; simp
              rw [e2] at S
              have hi1 : IntKind.i64.wrap ((k : Int) + 1) = (k : Int) + 1 := IntWalk.i64_in _ (by have := HG.out; omega)
              replace S := Lib.hid S
              clear e2
              go_wp2
              exact ⟨⟨k + 1, _, _, Lib.hid HG.out, rfl, by go_num, S.out⟩, by have := HG.out; simp [intOf]; omega⟩
            ·
              have hz : (k : Int) < p.items.length → ¬ (k : Int) < 6 := fun a b => hgo ⟨by omega, by omega⟩
              have hkx : (p.items.take k).map plainV = itemsP p := by unfold itemsP; rw [List.take_eq_take_iff.2 (show min k p.items.length = min 6 p.items.length by have := HI.out; omega)]
              rw [hkx] at S
              have hkl : (itemsP p).length = k := by rw [← hkx, List.length_map, List.length_take]; have := HI.out; omega
              have HKL := Lib.hid hkl
              clear hgo hkx hkl
              replace S : Sep w (valsR (.slice a k cp) (itemsP p) :: boxV qv101 v :: heapR h (madeB L i) :: refR q_4_1 (madeB L i) :: Rs) wr := S
              go_upto_region 17 with fail
              go_cut [63] (fun s63 wx => s63 = .bool false ∧ Sep w (valsR (.slice a k cp) (itemsP p) :: boxV qv101 v :: heapR h (madeB L i) :: refR q_4_1 (madeB L i) :: Rs) wx)
              case first =>
                by_cases g1 : (k : Int) < p.items.length
                ·
                  have g2 : ¬ (k : Int) < 6 := hz g1
                  refine named (valsR (.slice a k cp) (itemsP p) :: boxV qv101 v :: heapR h (madeB L i) :: refR q_4_1 (madeB L i) :: Rs : List Res) fun b17_310 hb17_310 => ?_
                  have Hb17_310 := Lib.hid hb17_310
                  have Kb17_310 : Hid (∀ W (Q : List Res), Sep w (Q ++ b17_310) W → True) := Lib.hid fun W Q T => by
                    rw [hb17_310] at T
                    trivial
                  have B1 : Hid (∀ W (Q : List Res), Sep w (Q ++ b17_310) W → W.cell? ⟨g, og + i * 3 + 1, none⟩ = some (.slice ia p.items.length ic)) := Lib.hid fun W Q T => cellBelow H1.out T.below
                  replace S := Lib.hid S
                  clear hb17_310
                  have S1 : Sep w ([] ++ b17_310) (wr) := by rw [Hb17_310.out]; exact S.out
                  clear S
                  refine regionL (E := []) (base := b17_310) S1 ?_
                  clear S1
                  iterate 5 (refine quietL ?_; simp only [Act.put, pa]; try dsimp only [List.set])
                  refine quietLC B1 ?_
                  simp only [Act.put, pa]; try dsimp only [List.set]
                  iterate 6 (refine quietL ?_; simp only [Act.put, pa]; try dsimp only [List.set])
                  refine doneL (h := fun w312 S => ?_)
                  replace S : Sep w (valsR (.slice a k cp) (itemsP p) :: boxV qv101 v :: heapR h (madeB L i) :: refR q_4_1 (madeB L i) :: Rs) w312 := by rw [Hb17_310.out] at S; exact S
                  clear Hb17_310 Kb17_310 B1
                  replace S := Lib.hid S
                  go_wp2_with fail
                  go_meet
                  exact ⟨rfl, S.out⟩
                ·
                  refine named (valsR (.slice a k cp) (itemsP p) :: boxV qv101 v :: heapR h (madeB L i) :: refR q_4_1 (madeB L i) :: Rs : List Res) fun b17_330 hb17_330 => ?_
                  have Hb17_330 := Lib.hid hb17_330
                  have Kb17_330 : Hid (∀ W (Q : List Res), Sep w (Q ++ b17_330) W → True) := Lib.hid fun W Q T => by
                    rw [hb17_330] at T
                    trivial
                  have B1 : Hid (∀ W (Q : List Res), Sep w (Q ++ b17_330) W → W.cell? ⟨g, og + i * 3 + 1, none⟩ = some (.slice ia p.items.length ic)) := Lib.hid fun W Q T => cellBelow H1.out T.below
                  replace S := Lib.hid S
                  clear hb17_330
                  have S1 : Sep w ([] ++ b17_330) (wr) := by rw [Hb17_330.out]; exact S.out
                  clear S
                  refine regionL (E := []) (base := b17_330) S1 ?_
                  clear S1
                  iterate 5 (refine quietL ?_; simp only [Act.put, pa]; try dsimp only [List.set])
                  refine quietLC B1 ?_
                  simp only [Act.put, pa]; try dsimp only [List.set]
                  iterate 3 (refine quietL ?_; simp only [Act.put, pa]; try dsimp only [List.set])
                  iterate 2 (refine skipL ?_; simp only [Act.put, pa]; try dsimp only [List.set])
                  refine quietL ?_
                  simp only [Act.put, pa]; try dsimp only [List.set]
                  refine doneL (h := fun w332 S => ?_)
                  replace S : Sep w (valsR (.slice a k cp) (itemsP p) :: boxV qv101 v :: heapR h (madeB L i) :: refR q_4_1 (madeB L i) :: Rs) w332 := by rw [Hb17_330.out] at S; exact S
                  clear Hb17_330 Kb17_330 B1
                  replace S := Lib.hid S
                  go_wp2_with fail
                  go_meet
                  exact ⟨rfl, S.out⟩
              case rest =>
                obtain ⟨rfl, S⟩ := hcut
                clear hz
                obtain ⟨H1_, hH1⟩ : ∃ X, X = (madeB L i).replace v 0 0 (itemsP p) := ⟨_, rfl⟩
                have HH1 := Lib.hid hH1
                have F1 : Hid (H1_.Fit 300) := Lib.hid (by rw [hH1]; exact (FI.out.replace v 0 0 (itemsP p)).more (by have := itemsP_len p; omega))
                clear hH1
                replace S : Sep w (refR q_4_1 (madeB L i) :: valsR (.slice a k cp) (itemsP p) :: boxV qv101 v :: heapR h (madeB L i) :: Rs) (wc) := by
                  refine (show Sep w ([valsR (.slice a k cp) (itemsP p), boxV qv101 v, heapR h (madeB L i), refR q_4_1 (madeB L i)] ++ Rs) _ from S).perm ?_
                  exact List.Perm.append_right Rs (perm_of (l := [valsR (.slice a k cp) (itemsP p), boxV qv101 v, heapR h (madeB L i), refR q_4_1 (madeB L i)]) [3, 0, 1, 2] (by show (List.range' 0 4).Perm [3, 0, 1, 2]; decide) (by rfl))
                refine named (valsR (.slice a k cp) (itemsP p) :: boxV qv101 v :: heapR h (madeB L i) :: Rs : List Res) fun b20_400 hb20_400 => ?_
                have Hb20_400 := Lib.hid hb20_400
                have Kb20_400 : Hid (∀ W (Q : List Res), Sep w (Q ++ b20_400) W → True) := Lib.hid fun W Q T => by
                  rw [hb20_400] at T
                  trivial
                have Cb20_400_0 := baseC3 (w := w) (b := qv101) hb20_400 1 rfl
                have KW : Hid (∀ W (Q : List Res), Sep w (Q ++ b20_400) W → SeesV W (.slice a k cp) (itemsP p)) := Lib.hid fun W Q T => by rw [Hb20_400.out] at T; exact T.seesV (Q.length + 0) (atR rfl)
                replace S := Lib.hid S
                clear hb20_400
                go_upto_region 20 with fail
                have S1 : Sep w ([refR q_4_1 (madeB L i)] ++ b20_400) (wc) := by rw [Hb20_400.out]; exact S.out
                clear S
                refine regionL (E := [refR q_4_1 (madeB L i)]) (base := b20_400) S1 ?_
                clear S1
                refine quietL ?_
                simp only [Act.put, pa]; try dsimp only [List.set]
                refine quietLC Cb20_400_0 ?_
                simp only [Act.put, pa]; try dsimp only [List.set]
                refine quietL ?_
                simp only [Act.put, pa]; try dsimp only [List.set]
                refine detL (.bool ((madeB L i).canReplace v 0 0)) [refR q_4_1 H1_] (h1 := fun Wx hSw => by (go_simp; refine symCall ?_; have hh := hSw.yReplace 0 rfl FI.out.G v 0 0 (.slice a k cp) (itemsP p) (fun W1 T => KW.out W1 [] T) (by have := itemsP_len p; omega); rw [← HH1.out] at hh; exact hh)) (h2 := ?_)
                simp only [Act.put, pa]; try dsimp only [List.set]
                refine doneL (h := fun w402 S => ?_)
                replace S : Sep w (refR q_4_1 H1_ :: valsR (.slice a k cp) (itemsP p) :: boxV qv101 v :: heapR h (madeB L i) :: Rs) w402 := by rw [Hb20_400.out] at S; exact S
                clear Hb20_400 Kb20_400 KW Cb20_400_0
                refine named (refR q_4_1 H1_ :: valsR (.slice a k cp) (itemsP p) :: boxV qv101 v :: heapR h (madeB L i) :: Rs : List Res) fun b21_402 hb21_402 => ?_
                have Hb21_402 := Lib.hid hb21_402
                have Kb21_402 : Hid (∀ W (Q : List Res), Sep w (Q ++ b21_402) W → True) := Lib.hid fun W Q T => by
                  rw [hb21_402] at T
                  trivial
                replace S := Lib.hid S
                clear hb21_402
                go_upto_region 21 with fail
                have S1 : Sep w ([] ++ b21_402) (w402) := by rw [Hb21_402.out]; exact S.out
                clear S
                refine regionL (E := []) (base := b21_402) S1 ?_
                clear S1
                iterate 2 (refine quietL ?_; simp only [Act.put, pa]; try dsimp only [List.set])
                refine doneL (h := fun w404 S => ?_)
                replace S : Sep w (refR q_4_1 H1_ :: valsR (.slice a k cp) (itemsP p) :: boxV qv101 v :: heapR h (madeB L i) :: Rs) w404 := by rw [Hb21_402.out] at S; exact S
                clear Hb21_402 Kb21_402
                replace S : Sep w (heapR h (madeB L i) :: refR q_4_1 H1_ :: valsR (.slice a k cp) (itemsP p) :: boxV qv101 v :: Rs) (w404) := by
                  refine (show Sep w ([refR q_4_1 H1_, valsR (.slice a k cp) (itemsP p), boxV qv101 v, heapR h (madeB L i)] ++ Rs) _ from S).perm ?_
                  exact List.Perm.append_right Rs (perm_of (l := [refR q_4_1 H1_, valsR (.slice a k cp) (itemsP p), boxV qv101 v, heapR h (madeB L i)]) [3, 0, 1, 2] (by show (List.range' 0 4).Perm [3, 0, 1, 2]; decide) (by rfl))
                refine named (refR q_4_1 H1_ :: valsR (.slice a k cp) (itemsP p) :: boxV qv101 v :: Rs : List Res) fun b22_404 hb22_404 => ?_
                have Hb22_404 := Lib.hid hb22_404
                have Kb22_404 : Hid (∀ W (Q : List Res), Sep w (Q ++ b22_404) W → True) := Lib.hid fun W Q T => by
                  rw [hb22_404] at T
                  trivial
                have Cb22_404_0 := baseC3 (w := w) (b := qv101) hb22_404 2 rfl
                have KW : Hid (∀ W (Q : List Res), Sep w (Q ++ b22_404) W → SeesV W (.slice a k cp) (itemsP p)) := Lib.hid fun W Q T => by rw [Hb22_404.out] at T; exact T.seesV (Q.length + 1) (atR rfl)
                replace S := Lib.hid S
                clear hb22_404
                go_upto_region 22 with fail
                have S1 : Sep w ([heapR h (madeB L i)] ++ b22_404) (w404) := by rw [Hb22_404.out]; exact S.out
                clear S
                refine regionL (E := [heapR h (madeB L i)]) (base := b22_404) S1 ?_
                clear S1
                refine quietL ?_
                simp only [Act.put, pa]; try dsimp only [List.set]
                refine quietLC Cb22_404_0 ?_
                simp only [Act.put, pa]; try dsimp only [List.set]
                refine quietL ?_
                simp only [Act.put, pa]; try dsimp only [List.set]
                refine detL (.bool ((madeB L i).canReplace v 0 0)) [heapR h H1_] (h1 := fun Wx hSw => by (go_simp; refine symCall ?_; have hh := hSw.replace 0 rfl FI.out.G v 0 0 (.slice a k cp) (itemsP p) (KW.out _ _ hSw) (by have := itemsP_len p; omega); rw [← HH1.out] at hh; exact hh)) (h2 := ?_)
                simp only [Act.put, pa]; try dsimp only [List.set]
                refine doneL (h := fun w406 S => ?_)
                replace S : Sep w (heapR h H1_ :: refR q_4_1 H1_ :: valsR (.slice a k cp) (itemsP p) :: boxV qv101 v :: Rs) w406 := by rw [Hb22_404.out] at S; exact S
                clear Hb22_404 Kb22_404 KW Cb22_404_0
                replace S : Sep w ([valsR (.slice a k cp) (itemsP p), heapR h H1_, refR q_4_1 H1_, boxV qv101 v] ++ Rs) (w406) := by
                  refine (show Sep w ([heapR h H1_, refR q_4_1 H1_, valsR (.slice a k cp) (itemsP p), boxV qv101 v] ++ Rs) _ from S).perm ?_
                  exact List.Perm.append_right Rs (perm_of (l := [heapR h H1_, refR q_4_1 H1_, valsR (.slice a k cp) (itemsP p), boxV qv101 v]) [2, 0, 1, 3] (by show (List.range' 0 4).Perm [2, 0, 1, 3]; decide) (by rfl))
                iterate 1 replace S := S.tail
                replace S : Sep w (heapR h H1_ :: refR q_4_1 H1_ :: boxV qv101 v :: Rs) (w406) := S
                replace S := Lib.hid S
                go_wp2
                go_loopw [13] (fun s13 wr => ∃ k : Nat, Hid (k ≤ p.pairs.length ∧ k ≤ 6) ∧ s13 = .int .i64 k ∧ Sep w ([heapR h (putsM H1_ v (p.pairs.take k)), refR q_4_1 (putsM H1_ v (p.pairs.take k)), boxV qv101 v] ++ Rs) wr) (fun s13 _ => 6 - (intOf s13).toNat)
                case atStart => exact ⟨0, Lib.hid ⟨Nat.zero_le _, Nat.zero_le _⟩, rfl, S.out⟩
                case round =>
                  clear HKL HI
                  obtain ⟨k, HI, rfl, S⟩ := hrel
                  have FK : Hid ((putsM H1_ v (p.pairs.take k)).Fit 400) := Lib.hid ((puts_fit _ F1.out).more (by have := HI.out; rw [List.length_take]; omega))
                  by_cases hgo : k < p.pairs.length ∧ k < 6
                  ·
                    obtain ⟨g1, g2⟩ := hgo
                    have hc1 : (k : Int) < p.pairs.length := by omega
                    have hc2 : (k : Int) < 6 := by omega
                    obtain ⟨q, hq⟩ : ∃ q, p.pairs[k]? = some q := ⟨p.pairs[k], by simp [g1]⟩
                    obtain ⟨gp, op, rfl, hcp⟩ : ∃ gp op, pad = some ⟨gp, op, none⟩ ∧ ∀ i (q : V × V), p.pairs[i]? = some q → ∀ (j : Nat) (u : Value), (pairC q)[j]? = some u → w.cell? ⟨gp, op + i * 6 + j, none⟩ = some u := by
                      rcases HP3.out with e | e
                      · rw [e] at hq; simp at hq
                      · exact e
                    have HC := Lib.hid (fun (j : Nat) (u : Value) => hcp k q hq j u)
                    have HNP := Lib.hid (puts_next (H := H1_) (v := v) hq)
                    have HG := Lib.hid (And.intro g1 g2)
                    clear hq hcp g1 g2
                    replace S : Sep w (heapR h (putsM H1_ v (p.pairs.take k)) :: refR q_4_1 (putsM H1_ v (p.pairs.take k)) :: boxV qv101 v :: Rs) wr := S
                    refine named (heapR h (putsM H1_ v (p.pairs.take k)) :: refR q_4_1 (putsM H1_ v (p.pairs.take k)) :: boxV qv101 v :: Rs : List Res) fun b24_500 hb24_500 => ?_
                    have Hb24_500 := Lib.hid hb24_500
                    have Kb24_500 : Hid (∀ W (Q : List Res), Sep w (Q ++ b24_500) W → True) := Lib.hid fun W Q T => by
                      rw [hb24_500] at T
                      trivial
                    have B2 : Hid (∀ W (Q : List Res), Sep w (Q ++ b24_500) W → W.cell? ⟨g, og + i * 3 + 2, none⟩ = some (.slice (some ⟨gp, op, none⟩) p.pairs.length pc)) := Lib.hid fun W Q T => cellBelow H2.out T.below
                    replace S := Lib.hid S
                    clear hb24_500
                    go_upto_region 24 with fail
                    have S1 : Sep w ([] ++ b24_500) (wr) := by rw [Hb24_500.out]; exact S.out
                    clear S
                    refine regionL (E := []) (base := b24_500) S1 ?_
                    clear S1
                    iterate 5 (refine quietL ?_; simp only [Act.put, pa]; try dsimp only [List.set])
                    refine quietLC B2 ?_
                    simp only [Act.put, pa]; try dsimp only [List.set]
                    iterate 6 (refine quietL ?_; simp only [Act.put, pa]; try dsimp only [List.set])
                    refine doneL (h := fun w502 S => ?_)
                    replace S : Sep w (heapR h (putsM H1_ v (p.pairs.take k)) :: refR q_4_1 (putsM H1_ v (p.pairs.take k)) :: boxV qv101 v :: Rs) w502 := by rw [Hb24_500.out] at S; exact S
                    clear Hb24_500 Kb24_500 B2
                    refine named (heapR h (putsM H1_ v (p.pairs.take k)) :: refR q_4_1 (putsM H1_ v (p.pairs.take k)) :: boxV qv101 v :: Rs : List Res) fun b26_502 hb26_502 => ?_
                    have Hb26_502 := Lib.hid hb26_502
                    have Kb26_502 : Hid (∀ W (Q : List Res), Sep w (Q ++ b26_502) W → True) := Lib.hid fun W Q T => by
                      rw [hb26_502] at T
                      trivial
                    have K26_9 : KC w b26_502 28 #[.agg #[.int .i64 q.1.kind, .int .i64 q.1.n, .string q.1.s]] (.agg #[.int .i64 (plainV q.1).kind, .int .i64 (plainV q.1).n, .string (plainV q.1).s]) := Lib.hid fun W Q T => by
                      rw [Hb26_502.out] at T ⊢
                      exact lplain_ok T q.1
                    have B2 : Hid (∀ W (Q : List Res), Sep w (Q ++ b26_502) W → W.cell? ⟨g, og + i * 3 + 2, none⟩ = some (.slice (some ⟨gp, op, none⟩) p.pairs.length pc)) := Lib.hid fun W Q T => cellBelow H2.out T.below
                    have BX : Hid (∀ W (Q : List Res), Sep w (Q ++ b26_502) W → W.cell? ⟨gp, op + k * 6, none⟩ = some (.int .i64 q.1.kind) ∧ W.cell? ⟨gp, op + k * 6 + 1, none⟩ = some (.int .i64 q.1.n) ∧ W.cell? ⟨gp, op + k * 6 + 2, none⟩ = some (.string q.1.s)) := Lib.hid fun W Q T => ⟨cellBelow (HC.out 0 _ rfl) T.below, cellBelow (HC.out 1 _ rfl) T.below, cellBelow (HC.out 2 _ rfl) T.below⟩
                    replace S := Lib.hid S
                    clear hb26_502
                    go_upto_region 26 with fail
                    have S1 : Sep w ([] ++ b26_502) (w502) := by rw [Hb26_502.out]; exact S.out
                    clear S
                    refine regionL (E := [emptyR]) (base := b26_502) (Sep.putE S1) ?_
                    clear S1
                    iterate 4 (refine quietL ?_; simp only [Act.put, pa]; try dsimp only [List.set])
                    refine quietLC B2 ?_
                    simp only [Act.put, pa]; try dsimp only [List.set]
                    iterate 3 (refine quietL ?_; simp only [Act.put, pa]; try dsimp only [List.set])
                    refine quietLC BX ?_
                    simp only [Act.put, pa]; try dsimp only [List.set]
                    refine quietLK K26_9 ?_
                    simp only [Act.put, pa]; try dsimp only [List.set]
                    refine allocL 0 rfl (fun q => .pointer (some ⟨q, 0, none⟩)) (.cells #[.int .i64 0, .int .i64 0, .string ⟨#[]⟩] 29) (h1 := fun Wx => by go_simp) (h2 := fun qx261 => ?_)
                    simp only [Act.put, pa]; try dsimp only [List.set]
                    try simp only [List.set_cons_zero, List.set_cons_succ]
                    refine detL undef [boxV qx261 (plainV q.1)] (h1 := fun Wx hSw => by (have hz := hSw.box (b := qx261) (o := objZ) 0 rfl; refine useZ3 hz fun z0 z1 z2 y0 y1 y2 => ?_; go_simp; exact ⟨rfl, hSw.set3 0 rfl (.int .i64 (plainV q.1).kind) (.int .i64 (plainV q.1).n) (.string (plainV q.1).s)⟩)) (h2 := ?_)
                    simp only [Act.put, pa]; try dsimp only [List.set]
                    refine doneL (h := fun w504 S => ?_)
                    replace S : Sep w (boxV qx261 (plainV q.1) :: heapR h (putsM H1_ v (p.pairs.take k)) :: refR q_4_1 (putsM H1_ v (p.pairs.take k)) :: boxV qv101 v :: Rs) w504 := by rw [Hb26_502.out] at S; exact S
                    clear Hb26_502 Kb26_502 K26_9 B2 BX
                    refine named (boxV qx261 (plainV q.1) :: heapR h (putsM H1_ v (p.pairs.take k)) :: refR q_4_1 (putsM H1_ v (p.pairs.take k)) :: boxV qv101 v :: Rs : List Res) fun b27_504 hb27_504 => ?_
                    have Hb27_504 := Lib.hid hb27_504
                    have Kb27_504 : Hid (∀ W (Q : List Res), Sep w (Q ++ b27_504) W → True) := Lib.hid fun W Q T => by
                      rw [hb27_504] at T
                      trivial
                    have K27_9 : KC w b27_504 28 #[.agg #[.int .i64 q.2.kind, .int .i64 q.2.n, .string q.2.s]] (.agg #[.int .i64 (plainV q.2).kind, .int .i64 (plainV q.2).n, .string (plainV q.2).s]) := Lib.hid fun W Q T => by
                      rw [Hb27_504.out] at T ⊢
                      exact lplain_ok T q.2
                    have B2 : Hid (∀ W (Q : List Res), Sep w (Q ++ b27_504) W → W.cell? ⟨g, og + i * 3 + 2, none⟩ = some (.slice (some ⟨gp, op, none⟩) p.pairs.length pc)) := Lib.hid fun W Q T => cellBelow H2.out T.below
                    have BX : Hid (∀ W (Q : List Res), Sep w (Q ++ b27_504) W → W.cell? ⟨gp, op + k * 6 + 3, none⟩ = some (.int .i64 q.2.kind) ∧ W.cell? ⟨gp, op + k * 6 + 4, none⟩ = some (.int .i64 q.2.n) ∧ W.cell? ⟨gp, op + k * 6 + 5, none⟩ = some (.string q.2.s)) := Lib.hid fun W Q T => ⟨cellBelow (HC.out 3 _ rfl) T.below, cellBelow (HC.out 4 _ rfl) T.below, cellBelow (HC.out 5 _ rfl) T.below⟩
                    replace S := Lib.hid S
                    clear hb27_504
                    go_upto_region 27 with fail
                    have S1 : Sep w ([] ++ b27_504) (w504) := by rw [Hb27_504.out]; exact S.out
                    clear S
                    refine regionL (E := [emptyR]) (base := b27_504) (Sep.putE S1) ?_
                    clear S1
                    iterate 4 (refine quietL ?_; simp only [Act.put, pa]; try dsimp only [List.set])
                    refine quietLC B2 ?_
                    simp only [Act.put, pa]; try dsimp only [List.set]
                    iterate 3 (refine quietL ?_; simp only [Act.put, pa]; try dsimp only [List.set])
                    refine quietLC BX ?_
                    simp only [Act.put, pa]; try dsimp only [List.set]
                    refine quietLK K27_9 ?_
                    simp only [Act.put, pa]; try dsimp only [List.set]
                    refine allocL 0 rfl (fun q => .pointer (some ⟨q, 0, none⟩)) (.cells #[.int .i64 0, .int .i64 0, .string ⟨#[]⟩] 29) (h1 := fun Wx => by go_simp) (h2 := fun qx271 => ?_)
                    simp only [Act.put, pa]; try dsimp only [List.set]
                    try simp only [List.set_cons_zero, List.set_cons_succ]
                    refine detL undef [boxV qx271 (plainV q.2)] (h1 := fun Wx hSw => by (have hz := hSw.box (b := qx271) (o := objZ) 0 rfl; refine useZ3 hz fun z0 z1 z2 y0 y1 y2 => ?_; go_simp; exact ⟨rfl, hSw.set3 0 rfl (.int .i64 (plainV q.2).kind) (.int .i64 (plainV q.2).n) (.string (plainV q.2).s)⟩)) (h2 := ?_)
                    simp only [Act.put, pa]; try dsimp only [List.set]
                    refine doneL (h := fun w506 S => ?_)
                    replace S : Sep w (boxV qx271 (plainV q.2) :: boxV qx261 (plainV q.1) :: heapR h (putsM H1_ v (p.pairs.take k)) :: refR q_4_1 (putsM H1_ v (p.pairs.take k)) :: boxV qv101 v :: Rs) w506 := by rw [Hb27_504.out] at S; exact S
                    clear Hb27_504 Kb27_504 K27_9 B2 BX
                    replace S : Sep w (refR q_4_1 (putsM H1_ v (p.pairs.take k)) :: boxV qx271 (plainV q.2) :: boxV qx261 (plainV q.1) :: heapR h (putsM H1_ v (p.pairs.take k)) :: boxV qv101 v :: Rs) (w506) := by
                      refine (show Sep w ([boxV qx271 (plainV q.2), boxV qx261 (plainV q.1), heapR h (putsM H1_ v (p.pairs.take k)), refR q_4_1 (putsM H1_ v (p.pairs.take k)), boxV qv101 v] ++ Rs) _ from S).perm ?_
                      exact List.Perm.append_right Rs (perm_of (l := [boxV qx271 (plainV q.2), boxV qx261 (plainV q.1), heapR h (putsM H1_ v (p.pairs.take k)), refR q_4_1 (putsM H1_ v (p.pairs.take k)), boxV qv101 v]) [3, 0, 1, 2, 4] (by show (List.range' 0 5).Perm [3, 0, 1, 2, 4]; decide) (by rfl))
                    refine named (boxV qx271 (plainV q.2) :: boxV qx261 (plainV q.1) :: heapR h (putsM H1_ v (p.pairs.take k)) :: boxV qv101 v :: Rs : List Res) fun b28_506 hb28_506 => ?_
                    have Hb28_506 := Lib.hid hb28_506
                    have Kb28_506 : Hid (∀ W (Q : List Res), Sep w (Q ++ b28_506) W → True) := Lib.hid fun W Q T => by
                      rw [hb28_506] at T
                      trivial
                    have Cb28_506_0 := baseC3 (w := w) (b := qv101) hb28_506 3 rfl
                    have Cb28_506_1 := baseC3 (w := w) (b := qx261) hb28_506 1 rfl
                    have Cb28_506_2 := baseC3 (w := w) (b := qx271) hb28_506 0 rfl
                    replace S := Lib.hid S
                    clear hb28_506
                    go_upto_region 28 with fail
                    have S1 : Sep w ([refR q_4_1 (putsM H1_ v (p.pairs.take k))] ++ b28_506) (w506) := by rw [Hb28_506.out]; exact S.out
                    clear S
                    refine regionL (E := [refR q_4_1 (putsM H1_ v (p.pairs.take k))]) (base := b28_506) S1 ?_
                    clear S1
                    refine quietL ?_
                    simp only [Act.put, pa]; try dsimp only [List.set]
                    refine quietLC Cb28_506_0 ?_
                    simp only [Act.put, pa]; try dsimp only [List.set]
                    refine quietLC Cb28_506_1 ?_
                    simp only [Act.put, pa]; try dsimp only [List.set]
                    refine quietLC Cb28_506_2 ?_
                    simp only [Act.put, pa]; try dsimp only [List.set]
                    refine detL (.bool ((putsM H1_ v (p.pairs.take k)).canPut v (plainV q.1))) [refR q_4_1 (putsM H1_ v (p.pairs.take (k + 1)))] (h1 := fun Wx hSw => by (go_simp; refine symCall ?_; have hh := hSw.yPut 0 rfl FK.out v (plainV q.1) (plainV q.2); rw [← HNP.out] at hh; exact hh)) (h2 := ?_)
                    simp only [Act.put, pa]; try dsimp only [List.set]
                    refine doneL (h := fun w508 S => ?_)
                    replace S : Sep w (refR q_4_1 (putsM H1_ v (p.pairs.take (k + 1))) :: boxV qx271 (plainV q.2) :: boxV qx261 (plainV q.1) :: heapR h (putsM H1_ v (p.pairs.take k)) :: boxV qv101 v :: Rs) w508 := by rw [Hb28_506.out] at S; exact S
                    clear Hb28_506 Kb28_506 Cb28_506_0 Cb28_506_1 Cb28_506_2
                    refine named (refR q_4_1 (putsM H1_ v (p.pairs.take (k + 1))) :: boxV qx271 (plainV q.2) :: boxV qx261 (plainV q.1) :: heapR h (putsM H1_ v (p.pairs.take k)) :: boxV qv101 v :: Rs : List Res) fun b29_508 hb29_508 => ?_
                    have Hb29_508 := Lib.hid hb29_508
                    have Kb29_508 : Hid (∀ W (Q : List Res), Sep w (Q ++ b29_508) W → True) := Lib.hid fun W Q T => by
                      rw [hb29_508] at T
                      trivial
                    replace S := Lib.hid S
                    clear hb29_508
                    go_upto_region 29 with fail
                    have S1 : Sep w ([] ++ b29_508) (w508) := by rw [Hb29_508.out]; exact S.out
                    clear S
                    refine regionL (E := []) (base := b29_508) S1 ?_
                    clear S1
                    iterate 2 (refine quietL ?_; simp only [Act.put, pa]; try dsimp only [List.set])
                    refine doneL (h := fun w510 S => ?_)
                    replace S : Sep w (refR q_4_1 (putsM H1_ v (p.pairs.take (k + 1))) :: boxV qx271 (plainV q.2) :: boxV qx261 (plainV q.1) :: heapR h (putsM H1_ v (p.pairs.take k)) :: boxV qv101 v :: Rs) w510 := by rw [Hb29_508.out] at S; exact S
                    clear Hb29_508 Kb29_508
                    replace S : Sep w (heapR h (putsM H1_ v (p.pairs.take k)) :: refR q_4_1 (putsM H1_ v (p.pairs.take (k + 1))) :: boxV qx271 (plainV q.2) :: boxV qx261 (plainV q.1) :: boxV qv101 v :: Rs) (w510) := by
                      refine (show Sep w ([refR q_4_1 (putsM H1_ v (p.pairs.take (k + 1))), boxV qx271 (plainV q.2), boxV qx261 (plainV q.1), heapR h (putsM H1_ v (p.pairs.take k)), boxV qv101 v] ++ Rs) _ from S).perm ?_
                      exact List.Perm.append_right Rs (perm_of (l := [refR q_4_1 (putsM H1_ v (p.pairs.take (k + 1))), boxV qx271 (plainV q.2), boxV qx261 (plainV q.1), heapR h (putsM H1_ v (p.pairs.take k)), boxV qv101 v]) [3, 0, 1, 2, 4] (by show (List.range' 0 5).Perm [3, 0, 1, 2, 4]; decide) (by rfl))
                    refine named (refR q_4_1 (putsM H1_ v (p.pairs.take (k + 1))) :: boxV qx271 (plainV q.2) :: boxV qx261 (plainV q.1) :: boxV qv101 v :: Rs : List Res) fun b30_510 hb30_510 => ?_
                    have Hb30_510 := Lib.hid hb30_510
                    have Kb30_510 : Hid (∀ W (Q : List Res), Sep w (Q ++ b30_510) W → True) := Lib.hid fun W Q T => by
                      rw [hb30_510] at T
                      trivial
                    have Cb30_510_0 := baseC3 (w := w) (b := qv101) hb30_510 3 rfl
                    have Cb30_510_1 := baseC3 (w := w) (b := qx261) hb30_510 2 rfl
                    have Cb30_510_2 := baseC3 (w := w) (b := qx271) hb30_510 1 rfl
                    replace S := Lib.hid S
                    clear hb30_510
                    go_upto_region 30 with fail
                    have S1 : Sep w ([heapR h (putsM H1_ v (p.pairs.take k))] ++ b30_510) (w510) := by rw [Hb30_510.out]; exact S.out
                    clear S
                    refine regionL (E := [heapR h (putsM H1_ v (p.pairs.take k))]) (base := b30_510) S1 ?_
                    clear S1
                    refine quietL ?_
                    simp only [Act.put, pa]; try dsimp only [List.set]
                    refine quietLC Cb30_510_0 ?_
                    simp only [Act.put, pa]; try dsimp only [List.set]
                    refine quietLC Cb30_510_1 ?_
                    simp only [Act.put, pa]; try dsimp only [List.set]
                    refine quietLC Cb30_510_2 ?_
                    simp only [Act.put, pa]; try dsimp only [List.set]
                    refine detL (.bool ((putsM H1_ v (p.pairs.take k)).canPut v (plainV q.1))) [heapR h (putsM H1_ v (p.pairs.take (k + 1)))] (h1 := fun Wx hSw => by (go_simp; refine symCall ?_; have hh := hSw.put 0 rfl v (plainV q.1) (plainV q.2); rw [← HNP.out] at hh; exact hh)) (h2 := ?_)
                    simp only [Act.put, pa]; try dsimp only [List.set]
                    refine doneL (h := fun w512 S => ?_)
                    replace S : Sep w (heapR h (putsM H1_ v (p.pairs.take (k + 1))) :: refR q_4_1 (putsM H1_ v (p.pairs.take (k + 1))) :: boxV qx271 (plainV q.2) :: boxV qx261 (plainV q.1) :: boxV qv101 v :: Rs) w512 := by rw [Hb30_510.out] at S; exact S
                    clear Hb30_510 Kb30_510 Cb30_510_0 Cb30_510_1 Cb30_510_2
                    replace S : Sep w ([boxV qx271 (plainV q.2), boxV qx261 (plainV q.1), heapR h (putsM H1_ v (p.pairs.take (k + 1))), refR q_4_1 (putsM H1_ v (p.pairs.take (k + 1))), boxV qv101 v] ++ Rs) (w512) := by
                      refine (show Sep w ([heapR h (putsM H1_ v (p.pairs.take (k + 1))), refR q_4_1 (putsM H1_ v (p.pairs.take (k + 1))), boxV qx271 (plainV q.2), boxV qx261 (plainV q.1), boxV qv101 v] ++ Rs) _ from S).perm ?_
                      exact List.Perm.append_right Rs (perm_of (l := [heapR h (putsM H1_ v (p.pairs.take (k + 1))), refR q_4_1 (putsM H1_ v (p.pairs.take (k + 1))), boxV qx271 (plainV q.2), boxV qx261 (plainV q.1), boxV qv101 v]) [2, 3, 0, 1, 4] (by show (List.range' 0 5).Perm [2, 3, 0, 1, 4]; decide) (by rfl))
                    iterate 2 replace S := S.tail
                    replace S : Sep w (heapR h (putsM H1_ v (p.pairs.take (k + 1))) :: refR q_4_1 (putsM H1_ v (p.pairs.take (k + 1))) :: boxV qv101 v :: Rs) (w512) := S
                    have hi1 : IntKind.i64.wrap ((k : Int) + 1) = (k : Int) + 1 := IntWalk.i64_in _ (by have := HG.out; omega)
                    replace S := Lib.hid S
                    go_wp2
                    exact ⟨⟨k + 1, Lib.hid HG.out, by go_num, S.out⟩, by have := HG.out; simp [intOf]; omega⟩
                  ·
                    have hz : (k : Int) < p.pairs.length → ¬ (k : Int) < 6 := fun a b => hgo ⟨by omega, by omega⟩
                    have hkx : putsM H1_ v (p.pairs.take k) = madeB L (i + 1) := by rw [HNX.out, HH1.out, fillM, List.take_eq_take_iff.2 (show min k p.pairs.length = min 6 p.pairs.length by have := HI.out; omega)]
                    rw [hkx] at S
                    clear hgo hkx FK
                    replace S : Sep w (heapR h (madeB L (i + 1)) :: refR q_4_1 (madeB L (i + 1)) :: boxV qv101 v :: Rs) wr := S
                    go_upto_region 24 with fail
                    go_cut [99] (fun s99 wx => s99 = .bool false ∧ Sep w (heapR h (madeB L (i + 1)) :: refR q_4_1 (madeB L (i + 1)) :: boxV qv101 v :: Rs) wx)
                    case first =>
                      by_cases g1 : (k : Int) < p.pairs.length
                      ·
                        have g2 : ¬ (k : Int) < 6 := hz g1
                        refine named (heapR h (madeB L (i + 1)) :: refR q_4_1 (madeB L (i + 1)) :: boxV qv101 v :: Rs : List Res) fun b24_610 hb24_610 => ?_
                        have Hb24_610 := Lib.hid hb24_610
                        have Kb24_610 : Hid (∀ W (Q : List Res), Sep w (Q ++ b24_610) W → True) := Lib.hid fun W Q T => by
                          rw [hb24_610] at T
                          trivial
                        have B2 : Hid (∀ W (Q : List Res), Sep w (Q ++ b24_610) W → W.cell? ⟨g, og + i * 3 + 2, none⟩ = some (.slice pad p.pairs.length pc)) := Lib.hid fun W Q T => cellBelow H2.out T.below
                        replace S := Lib.hid S
                        clear hb24_610
                        have S1 : Sep w ([] ++ b24_610) (wr) := by rw [Hb24_610.out]; exact S.out
                        clear S
                        refine regionL (E := []) (base := b24_610) S1 ?_
                        clear S1
                        iterate 5 (refine quietL ?_; simp only [Act.put, pa]; try dsimp only [List.set])
                        refine quietLC B2 ?_
                        simp only [Act.put, pa]; try dsimp only [List.set]
                        iterate 6 (refine quietL ?_; simp only [Act.put, pa]; try dsimp only [List.set])
                        refine doneL (h := fun w612 S => ?_)
                        replace S : Sep w (heapR h (madeB L (i + 1)) :: refR q_4_1 (madeB L (i + 1)) :: boxV qv101 v :: Rs) w612 := by rw [Hb24_610.out] at S; exact S
                        clear Hb24_610 Kb24_610 B2
                        replace S := Lib.hid S
                        go_wp2_with fail
                        go_meet
                        exact ⟨rfl, S.out⟩
                      ·
                        refine named (heapR h (madeB L (i + 1)) :: refR q_4_1 (madeB L (i + 1)) :: boxV qv101 v :: Rs : List Res) fun b24_630 hb24_630 => ?_
                        have Hb24_630 := Lib.hid hb24_630
                        have Kb24_630 : Hid (∀ W (Q : List Res), Sep w (Q ++ b24_630) W → True) := Lib.hid fun W Q T => by
                          rw [hb24_630] at T
                          trivial
                        have B2 : Hid (∀ W (Q : List Res), Sep w (Q ++ b24_630) W → W.cell? ⟨g, og + i * 3 + 2, none⟩ = some (.slice pad p.pairs.length pc)) := Lib.hid fun W Q T => cellBelow H2.out T.below
                        replace S := Lib.hid S
                        clear hb24_630
                        have S1 : Sep w ([] ++ b24_630) (wr) := by rw [Hb24_630.out]; exact S.out
                        clear S
                        refine regionL (E := []) (base := b24_630) S1 ?_
                        clear S1
                        iterate 5 (refine quietL ?_; simp only [Act.put, pa]; try dsimp only [List.set])
                        refine quietLC B2 ?_
                        simp only [Act.put, pa]; try dsimp only [List.set]
                        iterate 3 (refine quietL ?_; simp only [Act.put, pa]; try dsimp only [List.set])
                        iterate 2 (refine skipL ?_; simp only [Act.put, pa]; try dsimp only [List.set])
                        refine quietL ?_
                        simp only [Act.put, pa]; try dsimp only [List.set]
                        refine doneL (h := fun w632 S => ?_)
                        replace S : Sep w (heapR h (madeB L (i + 1)) :: refR q_4_1 (madeB L (i + 1)) :: boxV qv101 v :: Rs) w632 := by rw [Hb24_630.out] at S; exact S
                        clear Hb24_630 Kb24_630 B2
                        replace S := Lib.hid S
                        go_wp2_with fail
                        go_meet
                        exact ⟨rfl, S.out⟩
                    case rest =>
                      obtain ⟨rfl, S⟩ := hcut
                      clear hz
                      replace S : Sep w ([boxV qv101 v, heapR h (madeB L (i + 1)), refR q_4_1 (madeB L (i + 1))] ++ Rs) (wc) := by
                        refine (show Sep w ([heapR h (madeB L (i + 1)), refR q_4_1 (madeB L (i + 1)), boxV qv101 v] ++ Rs) _ from S).perm ?_
                        exact List.Perm.append_right Rs (perm_of (l := [heapR h (madeB L (i + 1)), refR q_4_1 (madeB L (i + 1)), boxV qv101 v]) [2, 0, 1] (by show (List.range' 0 3).Perm [2, 0, 1]; decide) (by rfl))
                      iterate 1 replace S := S.tail
                      replace S : Sep w (heapR h (madeB L (i + 1)) :: refR q_4_1 (madeB L (i + 1)) :: Rs) (wc) := S
                      have hi1 : IntKind.i64.wrap ((i : Int) + 1) = (i : Int) + 1 := IntWalk.i64_in _ (by have := HN8.out; have := HLT.out; omega)
                      replace S := Lib.hid S
                      go_wp2
                      exact ⟨⟨i + 1, HLT.out, by go_num, S.out⟩, by have := HLT.out; simp [intOf]; omega⟩
        ·
          obtain rfl : i = L.length := by omega
          have hnot2 : ¬ ((L.length : Int) < L.length) := by omega
          clear hlt hi
          replace S := Lib.hid S
          go_wp2
          exact bodyPost_ret (v := .tuple #[.pointer (some ⟨h, 0, none⟩), .pointer (some ⟨q_4_1, 0, none⟩)]) (by simp [results, Tryz.results27, go_sem]) rfl ⟨h, q_4_1, rfl, S.out⟩
end
end Go.Proofs.YtellmfimmghidaaGreat
namespace Go.Proofs.YtellmfimmghidaaGreat.operateSame
set_option linter.unusedSimpArgs false
open Go.ChangeShapes Go.WideShapes Go.ChangeAt Go.RowKit
open Go.ChangeMaps (open_string)
set_option linter.unusedVariables false
attribute [local irreducible] wpSeqS wpAnyS wpPreS
/-- What is raised, by its name. -/
def nmS : Option Bool → ByteArray | some _ => ⟨#[]⟩ | none => recursionError
def k1S (r : Option Bool) : Int := if r.isSome = true then 1 else 0
def n1S (r : Option Bool) : Int := if r = some true then 1 else 0
def n2S (r : Option Bool) : Int := if r = some false then 1 else 0
theorem sameV_nm (r : Option Bool) : sameV r = .tuple #[.bool (r.getD false), excN (nmS r)] := by cases r <;> rfl
theorem cmpV_eq (r : Option Bool) : cmpV (sameC r) false = .tuple #[.agg #[.int .i64 (k1S r), .int .i64 (n1S r), .string ⟨#[]⟩], excN (nmS r)] := by
  cases r with
  | none => rfl
  | some b => cases b <;> rfl
theorem cmpV_ne (r : Option Bool) : cmpV (sameC r) true = .tuple #[.agg #[.int .i64 (k1S r), .int .i64 (n2S r), .string ⟨#[]⟩], excN (nmS r)] := by
  cases r with
  | none => rfl
  | some b => cases b <;> rfl
theorem none_no (W : World) {r : Option Bool} {n : ByteArray} (hn : n = nmS r) (hr : r = none) : Calls Tryz.prog 19 #[excN n] W fun e W' => e = .returned (.bool false) ∧ Below W.heap.size W W' := by
  subst hn hr; exact none_deep W
theorem none_some (W : World) {r : Option Bool} {n : ByteArray} (hn : n = nmS r) (hr : r.isSome = true) : Calls Tryz.prog 19 #[excN n] W fun e W' => e = .returned (.bool true) ∧ Below W.heap.size W W' := by
  obtain ⟨b, rfl⟩ := Option.isSome_iff_exists.1 hr
  subst hn; exact none_z W
set_option maxRecDepth 100000 in
set_option maxHeartbeats 12800000 in
theorem walk (w : World) (sl : Value) (l : List ObjI) (hs : SeesO w sl l) (x0 x1 x2 : V) :
    Calls Tryz.prog 7 #[sl, .agg #[.int .i64 x0.kind, .int .i64 x0.n, .string x0.s, .int .i64 x1.kind, .int .i64 x1.n, .string x1.s, .int .i64 x2.kind, .int .i64 x2.n, .string x2.s]] w fun e W' => e = .returned (.bool true) ∧ Below w.heap.size w W' := by
  obtain ⟨a, ha⟩ : ∃ z, z = plainV x0 := ⟨_, rfl⟩
  obtain ⟨b, hb⟩ : ∃ z, z = plainV x1 := ⟨_, rfl⟩
  obtain ⟨c, hc⟩ : ∃ z, z = plainV x2 := ⟨_, rfl⟩
  obtain ⟨H, hH⟩ : ∃ H, H = madeO l := ⟨_, rfl⟩
  have HF : Hid (H.Fit 200) := Lib.hid (by rw [hH]; exact madeO_fit hs.2)
  obtain ⟨rab, hrab⟩ : ∃ r, H.sameF 30 a b = r := ⟨_, rfl⟩
  obtain ⟨nab, hnab⟩ : ∃ n, n = nmS rab := ⟨_, rfl⟩
  obtain ⟨bab, hbab⟩ : ∃ b, b = rab.getD false := ⟨_, rfl⟩
  have HRab := Lib.hid hrab
  have HNab := Lib.hid hnab
  have HBab := Lib.hid hbab
  clear hrab hnab hbab
  obtain ⟨rba, hrba⟩ : ∃ r, H.sameF 30 b a = r := ⟨_, rfl⟩
  obtain ⟨nba, hnba⟩ : ∃ n, n = nmS rba := ⟨_, rfl⟩
  obtain ⟨bba, hbba⟩ : ∃ b, b = rba.getD false := ⟨_, rfl⟩
  have HRba := Lib.hid hrba
  have HNba := Lib.hid hnba
  have HBba := Lib.hid hbba
  clear hrba hnba hbba
  obtain ⟨rbc, hrbc⟩ : ∃ r, H.sameF 30 b c = r := ⟨_, rfl⟩
  obtain ⟨nbc, hnbc⟩ : ∃ n, n = nmS rbc := ⟨_, rfl⟩
  obtain ⟨bbc, hbbc⟩ : ∃ b, b = rbc.getD false := ⟨_, rfl⟩
  have HRbc := Lib.hid hrbc
  have HNbc := Lib.hid hnbc
  have HBbc := Lib.hid hbbc
  clear hrbc hnbc hbbc
  obtain ⟨rac, hrac⟩ : ∃ r, H.sameF 30 a c = r := ⟨_, rfl⟩
  obtain ⟨nac, hnac⟩ : ∃ n, n = nmS rac := ⟨_, rfl⟩
  obtain ⟨bac, hbac⟩ : ∃ b, b = rac.getD false := ⟨_, rfl⟩
  have HRac := Lib.hid hrac
  have HNac := Lib.hid hnac
  have HBac := Lib.hid hbac
  clear hrac hnac hbac
  obtain ⟨k1, hk1⟩ : ∃ k, k = k1S rab := ⟨_, rfl⟩
  have Hk1 := Lib.hid hk1
  clear hk1
  obtain ⟨n1, hn1⟩ : ∃ k, k = n1S rab := ⟨_, rfl⟩
  have Hn1 := Lib.hid hn1
  clear hn1
  obtain ⟨n2, hn2⟩ : ∃ k, k = n2S rab := ⟨_, rfl⟩
  have Hn2 := Lib.hid hn2
  clear hn2
  have Ha_ := Lib.hid ha
  have Hb_ := Lib.hid hb
  have Hc_ := Lib.hid hc
  have HH_ := Lib.hid hH
  have HS := Lib.hid hs
  have S := Sep.start (Below.refl w.heap.size w)
  obtain ⟨q3, hq3⟩ : ∃ gx_, (w.heap.size) = gx_ := ⟨_, rfl⟩
  replace S := S.alloc (.cells #[.int .i64 x0.kind, .int .i64 x0.n, .string x0.s, .int .i64 x1.kind, .int .i64 x1.n, .string x1.s, .int .i64 x2.kind, .int .i64 x2.n, .string x2.s] 54)
  rw [hq3] at S ⊢
  have M0 := Lib.hid (shown_ok S)
  clear S ha hb hc hH hs
  go_enter Tryz.func7, Tryz.ntmps7
  go_upto_region 1 with fail
  try simp only [hq3]
  have HQ3 := Lib.hid hq3
  clear hq3
  go_wp2_with fail
  refine M0.out.mono ?_
  rintro e w1 ⟨rfl, S⟩
  clear M0
  have M := Lib.hid (made16_ok S sl l HS.out)
  clear S
  go_wp2_with fail
  refine M.out.mono ?_
  rintro e w2 ⟨h, y, rfl, S⟩
  clear M
  rw [← HH_.out] at S
  replace S : Sep w (heapR h H :: refR y H :: boxR q3 (.cells #[.int .i64 x0.kind, .int .i64 x0.n, .string x0.s, .int .i64 x1.kind, .int .i64 x1.n, .string x1.s, .int .i64 x2.kind, .int .i64 x2.n, .string x2.s] 54) :: []) _ := S
  refine named (heapR h H :: refR y H :: boxR q3 (.cells #[.int .i64 x0.kind, .int .i64 x0.n, .string x0.s, .int .i64 x1.kind, .int .i64 x1.n, .string x1.s, .int .i64 x2.kind, .int .i64 x2.n, .string x2.s] 54) :: [] : List Res) fun b5_2 hb5_2 => ?_
  have Hb5_2 := Lib.hid hb5_2
  have Kb5_2 : Hid (∀ W (Q : List Res), Sep w (Q ++ b5_2) W → True) := Lib.hid fun W Q T => by
    rw [hb5_2] at T
    trivial
  have Cb5_2_0 : Hid (∀ W (Q : List Res), Sep w (Q ++ b5_2) W → W.cell? ⟨q3, 0, none⟩ = some (.int .i64 x0.kind) ∧ W.cell? ⟨q3, 1, none⟩ = some (.int .i64 x0.n) ∧ W.cell? ⟨q3, 2, none⟩ = some (.string x0.s) ∧ W.cell? ⟨q3, 3, none⟩ = some (.int .i64 x1.kind) ∧ W.cell? ⟨q3, 4, none⟩ = some (.int .i64 x1.n) ∧ W.cell? ⟨q3, 5, none⟩ = some (.string x1.s) ∧ W.cell? ⟨q3, 6, none⟩ = some (.int .i64 x2.kind) ∧ W.cell? ⟨q3, 7, none⟩ = some (.int .i64 x2.n) ∧ W.cell? ⟨q3, 8, none⟩ = some (.string x2.s)) := Lib.hid fun W Q T => by
    rw [hb5_2] at T
    have i0 := T.box (b := q3) (o := .cells #[.int .i64 x0.kind, .int .i64 x0.n, .string x0.s, .int .i64 x1.kind, .int .i64 x1.n, .string x1.s, .int .i64 x2.kind, .int .i64 x2.n, .string x2.s] 54) (Q.length + 2) (atR rfl)
    exact ⟨cellAt i0 0 rfl, cellAt i0 1 rfl, cellAt i0 2 rfl, cellAt i0 3 rfl, cellAt i0 4 rfl, cellAt i0 5 rfl, cellAt i0 6 rfl, cellAt i0 7 rfl, cellAt i0 8 rfl⟩
  have K5_2 : KC w b5_2 28 #[agV x0] (.agg #[.int .i64 a.kind, .int .i64 a.n, .string a.s]) := Lib.hid fun W Q T => by
    rw [Hb5_2.out] at T ⊢
    exact (by have hh := lplain_ok T x0; rw [← Ha_.out] at hh; exact hh)
  replace S := Lib.hid S
  clear hb5_2
  go_upto_region 5 with fail
  have S1 : Sep w ([] ++ b5_2) (w2) := by rw [Hb5_2.out]; exact S.out
  clear S
  refine regionL (E := [emptyR]) (base := b5_2) (Sep.putE S1) ?_
  clear S1
  refine quietL ?_
  simp only [Act.put, pa]; try dsimp only [List.set]
  refine quietL (hy := fun E Wx hSw => by ((obtain ⟨u0, u1, u2, u3, u4, u5, u6, u7, u8⟩ := Cb5_2_0.out _ _ hSw); go_simp; exact ⟨rfl, hSw⟩)) (h := ?_)
  simp only [Act.put, pa]; try dsimp only [List.set]
  refine quietLK K5_2 ?_
  simp only [Act.put, pa]; try dsimp only [List.set]
  refine allocL 0 rfl (fun q => .pointer (some ⟨q, 0, none⟩)) (.cells #[.int .i64 0, .int .i64 0, .string ⟨#[]⟩] 29) (h1 := fun Wx => by go_simp) (h2 := fun qva1 => ?_)
  simp only [Act.put, pa]; try dsimp only [List.set]
  try simp only [List.set_cons_zero, List.set_cons_succ]
  refine detL undef [boxV qva1 a] (h1 := fun Wx hSw => by (have hz := hSw.box (b := qva1) (o := objZ) 0 rfl; refine useZ3 hz fun z0 z1 z2 y0 y1 y2 => ?_; go_simp; exact ⟨rfl, hSw.set3 0 rfl (.int .i64 a.kind) (.int .i64 a.n) (.string a.s)⟩)) (h2 := ?_)
  simp only [Act.put, pa]; try dsimp only [List.set]
  refine doneL (h := fun w4 S => ?_)
  replace S : Sep w (boxV qva1 a :: heapR h H :: refR y H :: boxR q3 (.cells #[.int .i64 x0.kind, .int .i64 x0.n, .string x0.s, .int .i64 x1.kind, .int .i64 x1.n, .string x1.s, .int .i64 x2.kind, .int .i64 x2.n, .string x2.s] 54) :: []) w4 := by rw [Hb5_2.out] at S; exact S
  clear Hb5_2 Kb5_2 K5_2 Cb5_2_0
  refine named (boxV qva1 a :: heapR h H :: refR y H :: boxR q3 (.cells #[.int .i64 x0.kind, .int .i64 x0.n, .string x0.s, .int .i64 x1.kind, .int .i64 x1.n, .string x1.s, .int .i64 x2.kind, .int .i64 x2.n, .string x2.s] 54) :: [] : List Res) fun b6_4 hb6_4 => ?_
  have Hb6_4 := Lib.hid hb6_4
  have Kb6_4 : Hid (∀ W (Q : List Res), Sep w (Q ++ b6_4) W → True) := Lib.hid fun W Q T => by
    rw [hb6_4] at T
    trivial
  have Cb6_4_0 : Hid (∀ W (Q : List Res), Sep w (Q ++ b6_4) W → W.cell? ⟨q3, 0, none⟩ = some (.int .i64 x0.kind) ∧ W.cell? ⟨q3, 1, none⟩ = some (.int .i64 x0.n) ∧ W.cell? ⟨q3, 2, none⟩ = some (.string x0.s) ∧ W.cell? ⟨q3, 3, none⟩ = some (.int .i64 x1.kind) ∧ W.cell? ⟨q3, 4, none⟩ = some (.int .i64 x1.n) ∧ W.cell? ⟨q3, 5, none⟩ = some (.string x1.s) ∧ W.cell? ⟨q3, 6, none⟩ = some (.int .i64 x2.kind) ∧ W.cell? ⟨q3, 7, none⟩ = some (.int .i64 x2.n) ∧ W.cell? ⟨q3, 8, none⟩ = some (.string x2.s)) := Lib.hid fun W Q T => by
    rw [hb6_4] at T
    have i0 := T.box (b := q3) (o := .cells #[.int .i64 x0.kind, .int .i64 x0.n, .string x0.s, .int .i64 x1.kind, .int .i64 x1.n, .string x1.s, .int .i64 x2.kind, .int .i64 x2.n, .string x2.s] 54) (Q.length + 3) (atR rfl)
    exact ⟨cellAt i0 0 rfl, cellAt i0 1 rfl, cellAt i0 2 rfl, cellAt i0 3 rfl, cellAt i0 4 rfl, cellAt i0 5 rfl, cellAt i0 6 rfl, cellAt i0 7 rfl, cellAt i0 8 rfl⟩
  have K6_2 : KC w b6_4 28 #[agV x1] (.agg #[.int .i64 b.kind, .int .i64 b.n, .string b.s]) := Lib.hid fun W Q T => by
    rw [Hb6_4.out] at T ⊢
    exact (by have hh := lplain_ok T x1; rw [← Hb_.out] at hh; exact hh)
  replace S := Lib.hid S
  clear hb6_4
  go_upto_region 6 with fail
  have S1 : Sep w ([] ++ b6_4) (w4) := by rw [Hb6_4.out]; exact S.out
  clear S
  refine regionL (E := [emptyR]) (base := b6_4) (Sep.putE S1) ?_
  clear S1
  refine quietL ?_
  simp only [Act.put, pa]; try dsimp only [List.set]
  refine quietL (hy := fun E Wx hSw => by ((obtain ⟨u0, u1, u2, u3, u4, u5, u6, u7, u8⟩ := Cb6_4_0.out _ _ hSw); go_simp; exact ⟨rfl, hSw⟩)) (h := ?_)
  simp only [Act.put, pa]; try dsimp only [List.set]
  refine quietLK K6_2 ?_
  simp only [Act.put, pa]; try dsimp only [List.set]
  refine allocL 0 rfl (fun q => .pointer (some ⟨q, 0, none⟩)) (.cells #[.int .i64 0, .int .i64 0, .string ⟨#[]⟩] 29) (h1 := fun Wx => by go_simp) (h2 := fun qvb1 => ?_)
  simp only [Act.put, pa]; try dsimp only [List.set]
  try simp only [List.set_cons_zero, List.set_cons_succ]
  refine detL undef [boxV qvb1 b] (h1 := fun Wx hSw => by (have hz := hSw.box (b := qvb1) (o := objZ) 0 rfl; refine useZ3 hz fun z0 z1 z2 y0 y1 y2 => ?_; go_simp; exact ⟨rfl, hSw.set3 0 rfl (.int .i64 b.kind) (.int .i64 b.n) (.string b.s)⟩)) (h2 := ?_)
  simp only [Act.put, pa]; try dsimp only [List.set]
  refine doneL (h := fun w6 S => ?_)
  replace S : Sep w (boxV qvb1 b :: boxV qva1 a :: heapR h H :: refR y H :: boxR q3 (.cells #[.int .i64 x0.kind, .int .i64 x0.n, .string x0.s, .int .i64 x1.kind, .int .i64 x1.n, .string x1.s, .int .i64 x2.kind, .int .i64 x2.n, .string x2.s] 54) :: []) w6 := by rw [Hb6_4.out] at S; exact S
  clear Hb6_4 Kb6_4 K6_2 Cb6_4_0
  refine named (boxV qvb1 b :: boxV qva1 a :: heapR h H :: refR y H :: boxR q3 (.cells #[.int .i64 x0.kind, .int .i64 x0.n, .string x0.s, .int .i64 x1.kind, .int .i64 x1.n, .string x1.s, .int .i64 x2.kind, .int .i64 x2.n, .string x2.s] 54) :: [] : List Res) fun b7_6 hb7_6 => ?_
  have Hb7_6 := Lib.hid hb7_6
  have Kb7_6 : Hid (∀ W (Q : List Res), Sep w (Q ++ b7_6) W → True) := Lib.hid fun W Q T => by
    rw [hb7_6] at T
    trivial
  have Cb7_6_0 : Hid (∀ W (Q : List Res), Sep w (Q ++ b7_6) W → W.cell? ⟨q3, 0, none⟩ = some (.int .i64 x0.kind) ∧ W.cell? ⟨q3, 1, none⟩ = some (.int .i64 x0.n) ∧ W.cell? ⟨q3, 2, none⟩ = some (.string x0.s) ∧ W.cell? ⟨q3, 3, none⟩ = some (.int .i64 x1.kind) ∧ W.cell? ⟨q3, 4, none⟩ = some (.int .i64 x1.n) ∧ W.cell? ⟨q3, 5, none⟩ = some (.string x1.s) ∧ W.cell? ⟨q3, 6, none⟩ = some (.int .i64 x2.kind) ∧ W.cell? ⟨q3, 7, none⟩ = some (.int .i64 x2.n) ∧ W.cell? ⟨q3, 8, none⟩ = some (.string x2.s)) := Lib.hid fun W Q T => by
    rw [hb7_6] at T
    have i0 := T.box (b := q3) (o := .cells #[.int .i64 x0.kind, .int .i64 x0.n, .string x0.s, .int .i64 x1.kind, .int .i64 x1.n, .string x1.s, .int .i64 x2.kind, .int .i64 x2.n, .string x2.s] 54) (Q.length + 4) (atR rfl)
    exact ⟨cellAt i0 0 rfl, cellAt i0 1 rfl, cellAt i0 2 rfl, cellAt i0 3 rfl, cellAt i0 4 rfl, cellAt i0 5 rfl, cellAt i0 6 rfl, cellAt i0 7 rfl, cellAt i0 8 rfl⟩
  have K7_2 : KC w b7_6 28 #[agV x2] (.agg #[.int .i64 c.kind, .int .i64 c.n, .string c.s]) := Lib.hid fun W Q T => by
    rw [Hb7_6.out] at T ⊢
    exact (by have hh := lplain_ok T x2; rw [← Hc_.out] at hh; exact hh)
  replace S := Lib.hid S
  clear hb7_6
  go_upto_region 7 with fail
  have S1 : Sep w ([] ++ b7_6) (w6) := by rw [Hb7_6.out]; exact S.out
  clear S
  refine regionL (E := [emptyR]) (base := b7_6) (Sep.putE S1) ?_
  clear S1
  refine quietL ?_
  simp only [Act.put, pa]; try dsimp only [List.set]
  refine quietL (hy := fun E Wx hSw => by ((obtain ⟨u0, u1, u2, u3, u4, u5, u6, u7, u8⟩ := Cb7_6_0.out _ _ hSw); go_simp; exact ⟨rfl, hSw⟩)) (h := ?_)
  simp only [Act.put, pa]; try dsimp only [List.set]
  refine quietLK K7_2 ?_
  simp only [Act.put, pa]; try dsimp only [List.set]
  refine allocL 0 rfl (fun q => .pointer (some ⟨q, 0, none⟩)) (.cells #[.int .i64 0, .int .i64 0, .string ⟨#[]⟩] 29) (h1 := fun Wx => by go_simp) (h2 := fun qvc1 => ?_)
  simp only [Act.put, pa]; try dsimp only [List.set]
  try simp only [List.set_cons_zero, List.set_cons_succ]
  refine detL undef [boxV qvc1 c] (h1 := fun Wx hSw => by (have hz := hSw.box (b := qvc1) (o := objZ) 0 rfl; refine useZ3 hz fun z0 z1 z2 y0 y1 y2 => ?_; go_simp; exact ⟨rfl, hSw.set3 0 rfl (.int .i64 c.kind) (.int .i64 c.n) (.string c.s)⟩)) (h2 := ?_)
  simp only [Act.put, pa]; try dsimp only [List.set]
  refine doneL (h := fun w8 S => ?_)
  replace S : Sep w (boxV qvc1 c :: boxV qvb1 b :: boxV qva1 a :: heapR h H :: refR y H :: boxR q3 (.cells #[.int .i64 x0.kind, .int .i64 x0.n, .string x0.s, .int .i64 x1.kind, .int .i64 x1.n, .string x1.s, .int .i64 x2.kind, .int .i64 x2.n, .string x2.s] 54) :: []) w8 := by rw [Hb7_6.out] at S; exact S
  clear Hb7_6 Kb7_6 K7_2 Cb7_6_0
  refine named (boxV qvc1 c :: boxV qvb1 b :: boxV qva1 a :: heapR h H :: refR y H :: boxR q3 (.cells #[.int .i64 x0.kind, .int .i64 x0.n, .string x0.s, .int .i64 x1.kind, .int .i64 x1.n, .string x1.s, .int .i64 x2.kind, .int .i64 x2.n, .string x2.s] 54) :: [] : List Res) fun b8_8 hb8_8 => ?_
  have Hb8_8 := Lib.hid hb8_8
  have Kb8_8 : Hid (∀ W (Q : List Res), Sep w (Q ++ b8_8) W → True) := Lib.hid fun W Q T => by
    rw [hb8_8] at T
    trivial
  have Cb8_8_0 := baseC3 (w := w) (b := qva1) hb8_8 2 rfl
  have K8_3 : KC w b8_8 29 #[hpV h, agV a, agV a] (.tuple #[.bool true, excN ⟨#[]⟩]) := Lib.hid fun W Q T => by
    rw [Hb8_8.out] at T ⊢
    exact (by have hh := sameOp_ok HF.out.G (by decide) (Q.length + 3) T (atR rfl) a a; rw [sameF_one (oneB_self a) 30] at hh; exact hh)
  replace S := Lib.hid S
  clear hb8_8
  go_upto_region 8 with fail
  have S1 : Sep w ([] ++ b8_8) (w8) := by rw [Hb8_8.out]; exact S.out
  clear S
  refine regionL (E := [emptyR]) (base := b8_8) (Sep.putE S1) ?_
  clear S1
  refine quietL ?_
  simp only [Act.put, pa]; try dsimp only [List.set]
  iterate 2 (refine quietLC Cb8_8_0 ?_; simp only [Act.put, pa]; try dsimp only [List.set])
  refine quietLK K8_3 ?_
  simp only [Act.put, pa]; try dsimp only [List.set]
  iterate 3 (refine quietL ?_; simp only [Act.put, pa]; try dsimp only [List.set])
  refine allocL 0 rfl (fun q => .pointer (some ⟨q, 0, none⟩)) (.cells #[.string ⟨#[]⟩, .int .i64 0, .int .i64 0, .string ⟨#[]⟩, .bool false] 38) (h1 := fun Wx => by go_simp) (h2 := fun qe81 => ?_)
  simp only [Act.put, pa]; try dsimp only [List.set]
  try simp only [List.set_cons_zero, List.set_cons_succ]
  refine quietL ?_
  simp only [Act.put, pa]; try dsimp only [List.set]
  refine detL undef [boxE qe81] (h1 := fun Wx hSw => by (have hz := hSw.box (b := qe81) (o := objE) 0 rfl; refine useZ5 hz fun z0 z1 z2 z3 z4 y0 y1 y2 y3 y4 => ?_; go_simp; exact ⟨rfl, hSw.set5 0 rfl (.string ⟨#[]⟩) (.int .i64 0) (.int .i64 0) (.string ⟨#[]⟩) (.bool false)⟩)) (h2 := ?_)
  simp only [Act.put, pa]; try dsimp only [List.set]
  refine doneL (h := fun w10 S => ?_)
  replace S : Sep w (boxE qe81 :: boxV qvc1 c :: boxV qvb1 b :: boxV qva1 a :: heapR h H :: refR y H :: boxR q3 (.cells #[.int .i64 x0.kind, .int .i64 x0.n, .string x0.s, .int .i64 x1.kind, .int .i64 x1.n, .string x1.s, .int .i64 x2.kind, .int .i64 x2.n, .string x2.s] 54) :: []) w10 := by rw [Hb8_8.out] at S; exact S
  clear Hb8_8 Kb8_8 K8_3 Cb8_8_0
  refine named (boxE qe81 :: boxV qvc1 c :: boxV qvb1 b :: boxV qva1 a :: heapR h H :: refR y H :: boxR q3 (.cells #[.int .i64 x0.kind, .int .i64 x0.n, .string x0.s, .int .i64 x1.kind, .int .i64 x1.n, .string x1.s, .int .i64 x2.kind, .int .i64 x2.n, .string x2.s] 54) :: [] : List Res) fun b9_10 hb9_10 => ?_
  have Hb9_10 := Lib.hid hb9_10
  have Kb9_10 : Hid (∀ W (Q : List Res), Sep w (Q ++ b9_10) W → True) := Lib.hid fun W Q T => by
    rw [hb9_10] at T
    trivial
  have Cb9_10_0 := baseC3 (w := w) (b := qva1) hb9_10 3 rfl
  have Cb9_10_1 := baseC3 (w := w) (b := qvb1) hb9_10 2 rfl
  have K9_3 : KC w b9_10 29 #[hpV h, agV a, agV b] (.tuple #[.bool bab, excN nab]) := Lib.hid fun W Q T => by
    rw [Hb9_10.out] at T ⊢
    exact (by have hh := sameOp_ok HF.out.G (by decide) (Q.length + 4) T (atR rfl) a b; rw [HRab.out, sameV_nm, ← HBab.out, ← HNab.out] at hh; exact hh)
  replace S := Lib.hid S
  clear hb9_10
  go_upto_region 9 with fail
  have S1 : Sep w ([] ++ b9_10) (w10) := by rw [Hb9_10.out]; exact S.out
  clear S
  refine regionL (E := [emptyR]) (base := b9_10) (Sep.putE S1) ?_
  clear S1
  refine quietL ?_
  simp only [Act.put, pa]; try dsimp only [List.set]
  refine quietLC Cb9_10_0 ?_
  simp only [Act.put, pa]; try dsimp only [List.set]
  refine quietLC Cb9_10_1 ?_
  simp only [Act.put, pa]; try dsimp only [List.set]
  refine quietLK K9_3 ?_
  simp only [Act.put, pa]; try dsimp only [List.set]
  iterate 3 (refine quietL ?_; simp only [Act.put, pa]; try dsimp only [List.set])
  refine allocL 0 rfl (fun q => .pointer (some ⟨q, 0, none⟩)) (.cells #[.string ⟨#[]⟩, .int .i64 0, .int .i64 0, .string ⟨#[]⟩, .bool false] 38) (h1 := fun Wx => by go_simp) (h2 := fun qe91 => ?_)
  simp only [Act.put, pa]; try dsimp only [List.set]
  try simp only [List.set_cons_zero, List.set_cons_succ]
  refine quietL ?_
  simp only [Act.put, pa]; try dsimp only [List.set]
  refine detL undef [boxN qe91 nab] (h1 := fun Wx hSw => by (have hz := hSw.box (b := qe91) (o := objE) 0 rfl; refine useZ5 hz fun z0 z1 z2 z3 z4 y0 y1 y2 y3 y4 => ?_; go_simp; exact ⟨rfl, hSw.set5 0 rfl (.string nab) (.int .i64 0) (.int .i64 0) (.string ⟨#[]⟩) (.bool false)⟩)) (h2 := ?_)
  simp only [Act.put, pa]; try dsimp only [List.set]
  refine doneL (h := fun w12 S => ?_)
  replace S : Sep w (boxN qe91 nab :: boxE qe81 :: boxV qvc1 c :: boxV qvb1 b :: boxV qva1 a :: heapR h H :: refR y H :: boxR q3 (.cells #[.int .i64 x0.kind, .int .i64 x0.n, .string x0.s, .int .i64 x1.kind, .int .i64 x1.n, .string x1.s, .int .i64 x2.kind, .int .i64 x2.n, .string x2.s] 54) :: []) w12 := by rw [Hb9_10.out] at S; exact S
  clear Hb9_10 Kb9_10 K9_3 Cb9_10_0 Cb9_10_1
  refine named (boxN qe91 nab :: boxE qe81 :: boxV qvc1 c :: boxV qvb1 b :: boxV qva1 a :: heapR h H :: refR y H :: boxR q3 (.cells #[.int .i64 x0.kind, .int .i64 x0.n, .string x0.s, .int .i64 x1.kind, .int .i64 x1.n, .string x1.s, .int .i64 x2.kind, .int .i64 x2.n, .string x2.s] 54) :: [] : List Res) fun b10_12 hb10_12 => ?_
  have Hb10_12 := Lib.hid hb10_12
  have Kb10_12 : Hid (∀ W (Q : List Res), Sep w (Q ++ b10_12) W → True) := Lib.hid fun W Q T => by
    rw [hb10_12] at T
    trivial
  have Cb10_12_0 := baseC3 (w := w) (b := qva1) hb10_12 4 rfl
  have Cb10_12_1 := baseC3 (w := w) (b := qvb1) hb10_12 3 rfl
  have K10_3 : KC w b10_12 29 #[hpV h, agV b, agV a] (.tuple #[.bool bba, excN nba]) := Lib.hid fun W Q T => by
    rw [Hb10_12.out] at T ⊢
    exact (by have hh := sameOp_ok HF.out.G (by decide) (Q.length + 5) T (atR rfl) b a; rw [HRba.out, sameV_nm, ← HBba.out, ← HNba.out] at hh; exact hh)
  replace S := Lib.hid S
  clear hb10_12
  go_upto_region 10 with fail
  have S1 : Sep w ([] ++ b10_12) (w12) := by rw [Hb10_12.out]; exact S.out
  clear S
  refine regionL (E := [emptyR]) (base := b10_12) (Sep.putE S1) ?_
  clear S1
  refine quietL ?_
  simp only [Act.put, pa]; try dsimp only [List.set]
  refine quietLC Cb10_12_1 ?_
  simp only [Act.put, pa]; try dsimp only [List.set]
  refine quietLC Cb10_12_0 ?_
  simp only [Act.put, pa]; try dsimp only [List.set]
  refine quietLK K10_3 ?_
  simp only [Act.put, pa]; try dsimp only [List.set]
  iterate 3 (refine quietL ?_; simp only [Act.put, pa]; try dsimp only [List.set])
  refine allocL 0 rfl (fun q => .pointer (some ⟨q, 0, none⟩)) (.cells #[.string ⟨#[]⟩, .int .i64 0, .int .i64 0, .string ⟨#[]⟩, .bool false] 38) (h1 := fun Wx => by go_simp) (h2 := fun qe101 => ?_)
  simp only [Act.put, pa]; try dsimp only [List.set]
  try simp only [List.set_cons_zero, List.set_cons_succ]
  refine quietL ?_
  simp only [Act.put, pa]; try dsimp only [List.set]
  refine detL undef [boxN qe101 nba] (h1 := fun Wx hSw => by (have hz := hSw.box (b := qe101) (o := objE) 0 rfl; refine useZ5 hz fun z0 z1 z2 z3 z4 y0 y1 y2 y3 y4 => ?_; go_simp; exact ⟨rfl, hSw.set5 0 rfl (.string nba) (.int .i64 0) (.int .i64 0) (.string ⟨#[]⟩) (.bool false)⟩)) (h2 := ?_)
  simp only [Act.put, pa]; try dsimp only [List.set]
  refine doneL (h := fun w14 S => ?_)
  replace S : Sep w (boxN qe101 nba :: boxN qe91 nab :: boxE qe81 :: boxV qvc1 c :: boxV qvb1 b :: boxV qva1 a :: heapR h H :: refR y H :: boxR q3 (.cells #[.int .i64 x0.kind, .int .i64 x0.n, .string x0.s, .int .i64 x1.kind, .int .i64 x1.n, .string x1.s, .int .i64 x2.kind, .int .i64 x2.n, .string x2.s] 54) :: []) w14 := by rw [Hb10_12.out] at S; exact S
  clear Hb10_12 Kb10_12 K10_3 Cb10_12_0 Cb10_12_1
  refine named (boxN qe101 nba :: boxN qe91 nab :: boxE qe81 :: boxV qvc1 c :: boxV qvb1 b :: boxV qva1 a :: heapR h H :: refR y H :: boxR q3 (.cells #[.int .i64 x0.kind, .int .i64 x0.n, .string x0.s, .int .i64 x1.kind, .int .i64 x1.n, .string x1.s, .int .i64 x2.kind, .int .i64 x2.n, .string x2.s] 54) :: [] : List Res) fun b11_14 hb11_14 => ?_
  have Hb11_14 := Lib.hid hb11_14
  have Kb11_14 : Hid (∀ W (Q : List Res), Sep w (Q ++ b11_14) W → True) := Lib.hid fun W Q T => by
    rw [hb11_14] at T
    trivial
  have Cb11_14_0 := baseC3 (w := w) (b := qvb1) hb11_14 4 rfl
  have Cb11_14_1 := baseC3 (w := w) (b := qvc1) hb11_14 3 rfl
  have K11_3 : KC w b11_14 29 #[hpV h, agV b, agV c] (.tuple #[.bool bbc, excN nbc]) := Lib.hid fun W Q T => by
    rw [Hb11_14.out] at T ⊢
    exact (by have hh := sameOp_ok HF.out.G (by decide) (Q.length + 6) T (atR rfl) b c; rw [HRbc.out, sameV_nm, ← HBbc.out, ← HNbc.out] at hh; exact hh)
  replace S := Lib.hid S
  clear hb11_14
  go_upto_region 11 with fail
  have S1 : Sep w ([] ++ b11_14) (w14) := by rw [Hb11_14.out]; exact S.out
  clear S
  refine regionL (E := [emptyR]) (base := b11_14) (Sep.putE S1) ?_
  clear S1
  refine quietL ?_
  simp only [Act.put, pa]; try dsimp only [List.set]
  refine quietLC Cb11_14_0 ?_
  simp only [Act.put, pa]; try dsimp only [List.set]
  refine quietLC Cb11_14_1 ?_
  simp only [Act.put, pa]; try dsimp only [List.set]
  refine quietLK K11_3 ?_
  simp only [Act.put, pa]; try dsimp only [List.set]
  iterate 3 (refine quietL ?_; simp only [Act.put, pa]; try dsimp only [List.set])
  refine allocL 0 rfl (fun q => .pointer (some ⟨q, 0, none⟩)) (.cells #[.string ⟨#[]⟩, .int .i64 0, .int .i64 0, .string ⟨#[]⟩, .bool false] 38) (h1 := fun Wx => by go_simp) (h2 := fun qe111 => ?_)
  simp only [Act.put, pa]; try dsimp only [List.set]
  try simp only [List.set_cons_zero, List.set_cons_succ]
  refine quietL ?_
  simp only [Act.put, pa]; try dsimp only [List.set]
  refine detL undef [boxN qe111 nbc] (h1 := fun Wx hSw => by (have hz := hSw.box (b := qe111) (o := objE) 0 rfl; refine useZ5 hz fun z0 z1 z2 z3 z4 y0 y1 y2 y3 y4 => ?_; go_simp; exact ⟨rfl, hSw.set5 0 rfl (.string nbc) (.int .i64 0) (.int .i64 0) (.string ⟨#[]⟩) (.bool false)⟩)) (h2 := ?_)
  simp only [Act.put, pa]; try dsimp only [List.set]
  refine doneL (h := fun w16 S => ?_)
  replace S : Sep w (boxN qe111 nbc :: boxN qe101 nba :: boxN qe91 nab :: boxE qe81 :: boxV qvc1 c :: boxV qvb1 b :: boxV qva1 a :: heapR h H :: refR y H :: boxR q3 (.cells #[.int .i64 x0.kind, .int .i64 x0.n, .string x0.s, .int .i64 x1.kind, .int .i64 x1.n, .string x1.s, .int .i64 x2.kind, .int .i64 x2.n, .string x2.s] 54) :: []) w16 := by rw [Hb11_14.out] at S; exact S
  clear Hb11_14 Kb11_14 K11_3 Cb11_14_0 Cb11_14_1
  refine named (boxN qe111 nbc :: boxN qe101 nba :: boxN qe91 nab :: boxE qe81 :: boxV qvc1 c :: boxV qvb1 b :: boxV qva1 a :: heapR h H :: refR y H :: boxR q3 (.cells #[.int .i64 x0.kind, .int .i64 x0.n, .string x0.s, .int .i64 x1.kind, .int .i64 x1.n, .string x1.s, .int .i64 x2.kind, .int .i64 x2.n, .string x2.s] 54) :: [] : List Res) fun b12_16 hb12_16 => ?_
  have Hb12_16 := Lib.hid hb12_16
  have Kb12_16 : Hid (∀ W (Q : List Res), Sep w (Q ++ b12_16) W → True) := Lib.hid fun W Q T => by
    rw [hb12_16] at T
    trivial
  have Cb12_16_0 := baseC3 (w := w) (b := qva1) hb12_16 6 rfl
  have Cb12_16_1 := baseC3 (w := w) (b := qvc1) hb12_16 4 rfl
  have K12_3 : KC w b12_16 29 #[hpV h, agV a, agV c] (.tuple #[.bool bac, excN nac]) := Lib.hid fun W Q T => by
    rw [Hb12_16.out] at T ⊢
    exact (by have hh := sameOp_ok HF.out.G (by decide) (Q.length + 7) T (atR rfl) a c; rw [HRac.out, sameV_nm, ← HBac.out, ← HNac.out] at hh; exact hh)
  replace S := Lib.hid S
  clear hb12_16
  go_upto_region 12 with fail
  have S1 : Sep w ([] ++ b12_16) (w16) := by rw [Hb12_16.out]; exact S.out
  clear S
  refine regionL (E := [emptyR]) (base := b12_16) (Sep.putE S1) ?_
  clear S1
  refine quietL ?_
  simp only [Act.put, pa]; try dsimp only [List.set]
  refine quietLC Cb12_16_0 ?_
  simp only [Act.put, pa]; try dsimp only [List.set]
  refine quietLC Cb12_16_1 ?_
  simp only [Act.put, pa]; try dsimp only [List.set]
  refine quietLK K12_3 ?_
  simp only [Act.put, pa]; try dsimp only [List.set]
  iterate 3 (refine quietL ?_; simp only [Act.put, pa]; try dsimp only [List.set])
  refine allocL 0 rfl (fun q => .pointer (some ⟨q, 0, none⟩)) (.cells #[.string ⟨#[]⟩, .int .i64 0, .int .i64 0, .string ⟨#[]⟩, .bool false] 38) (h1 := fun Wx => by go_simp) (h2 := fun qe121 => ?_)
  simp only [Act.put, pa]; try dsimp only [List.set]
  try simp only [List.set_cons_zero, List.set_cons_succ]
  refine quietL ?_
  simp only [Act.put, pa]; try dsimp only [List.set]
  refine detL undef [boxN qe121 nac] (h1 := fun Wx hSw => by (have hz := hSw.box (b := qe121) (o := objE) 0 rfl; refine useZ5 hz fun z0 z1 z2 z3 z4 y0 y1 y2 y3 y4 => ?_; go_simp; exact ⟨rfl, hSw.set5 0 rfl (.string nac) (.int .i64 0) (.int .i64 0) (.string ⟨#[]⟩) (.bool false)⟩)) (h2 := ?_)
  simp only [Act.put, pa]; try dsimp only [List.set]
  refine doneL (h := fun w18 S => ?_)
  replace S : Sep w (boxN qe121 nac :: boxN qe111 nbc :: boxN qe101 nba :: boxN qe91 nab :: boxE qe81 :: boxV qvc1 c :: boxV qvb1 b :: boxV qva1 a :: heapR h H :: refR y H :: boxR q3 (.cells #[.int .i64 x0.kind, .int .i64 x0.n, .string x0.s, .int .i64 x1.kind, .int .i64 x1.n, .string x1.s, .int .i64 x2.kind, .int .i64 x2.n, .string x2.s] 54) :: []) w18 := by rw [Hb12_16.out] at S; exact S
  clear Hb12_16 Kb12_16 K12_3 Cb12_16_0 Cb12_16_1
  refine named (boxN qe121 nac :: boxN qe111 nbc :: boxN qe101 nba :: boxN qe91 nab :: boxE qe81 :: boxV qvc1 c :: boxV qvb1 b :: boxV qva1 a :: heapR h H :: refR y H :: boxR q3 (.cells #[.int .i64 x0.kind, .int .i64 x0.n, .string x0.s, .int .i64 x1.kind, .int .i64 x1.n, .string x1.s, .int .i64 x2.kind, .int .i64 x2.n, .string x2.s] 54) :: [] : List Res) fun b13_18 hb13_18 => ?_
  have Hb13_18 := Lib.hid hb13_18
  have Kb13_18 : Hid (∀ W (Q : List Res), Sep w (Q ++ b13_18) W → True) := Lib.hid fun W Q T => by
    rw [hb13_18] at T
    trivial
  have Cb13_18_0 := baseC3 (w := w) (b := qva1) hb13_18 7 rfl
  have Cb13_18_1 := baseC3 (w := w) (b := qvb1) hb13_18 6 rfl
  have K13_3 : KC w b13_18 18 #[hpV h, .string ⟨#[61, 61]⟩, agV a, agV b] (.tuple #[.agg #[.int .i64 k1, .int .i64 n1, .string ⟨#[]⟩], excN nab]) := Lib.hid fun W Q T => by
    rw [Hb13_18.out] at T ⊢
    exact cmp_eq HF.out.G (by decide) T (Q.length + 8) (atR rfl) a b _ (by rw [HRab.out, cmpV_eq, ← Hk1.out, ← Hn1.out, ← HNab.out])
  replace S := Lib.hid S
  clear hb13_18
  go_upto_region 13 with fail
  have S1 : Sep w ([] ++ b13_18) (w18) := by rw [Hb13_18.out]; exact S.out
  clear S
  refine regionL (E := [emptyR, emptyR]) (base := b13_18) (Sep.putE (Sep.putE S1)) ?_
  clear S1
  refine quietL ?_
  simp only [Act.put, pa]; try dsimp only [List.set]
  refine quietLC Cb13_18_0 ?_
  simp only [Act.put, pa]; try dsimp only [List.set]
  refine quietLC Cb13_18_1 ?_
  simp only [Act.put, pa]; try dsimp only [List.set]
  refine quietLK K13_3 ?_
  simp only [Act.put, pa]; try dsimp only [List.set]
  iterate 3 (refine quietL ?_; simp only [Act.put, pa]; try dsimp only [List.set])
  refine allocL 0 rfl (fun q => .pointer (some ⟨q, 0, none⟩)) (.cells #[.int .i64 0, .int .i64 0, .string ⟨#[]⟩] 29) (h1 := fun Wx => by go_simp) (h2 := fun qv131 => ?_)
  simp only [Act.put, pa]; try dsimp only [List.set]
  try simp only [List.set_cons_zero, List.set_cons_succ]
  refine allocL 1 rfl (fun q => .pointer (some ⟨q, 0, none⟩)) (.cells #[.string ⟨#[]⟩, .int .i64 0, .int .i64 0, .string ⟨#[]⟩, .bool false] 38) (h1 := fun Wx => by go_simp) (h2 := fun qe132 => ?_)
  simp only [Act.put, pa]; try dsimp only [List.set]
  try simp only [List.set_cons_zero, List.set_cons_succ]
  refine detL undef [boxW qv131 k1 n1 ⟨#[]⟩, boxE qe132] (h1 := fun Wx hSw => by (have hz := hSw.box (b := qv131) (o := objZ) 0 rfl; refine useZ3 hz fun z0 z1 z2 y0 y1 y2 => ?_; go_simp; exact ⟨rfl, hSw.set3 0 rfl (.int .i64 k1) (.int .i64 n1) (.string ⟨#[]⟩)⟩)) (h2 := ?_)
  simp only [Act.put, pa]; try dsimp only [List.set]
  refine detL undef [boxW qv131 k1 n1 ⟨#[]⟩, boxN qe132 nab] (h1 := fun Wx hSw => by (have hz := hSw.box (b := qe132) (o := objE) 1 rfl; refine useZ5 hz fun z0 z1 z2 z3 z4 y0 y1 y2 y3 y4 => ?_; go_simp; exact ⟨rfl, hSw.set5 1 rfl (.string nab) (.int .i64 0) (.int .i64 0) (.string ⟨#[]⟩) (.bool false)⟩)) (h2 := ?_)
  simp only [Act.put, pa]; try dsimp only [List.set]
  refine doneL (h := fun w20 S => ?_)
  replace S : Sep w (boxW qv131 k1 n1 ⟨#[]⟩ :: boxN qe132 nab :: boxN qe121 nac :: boxN qe111 nbc :: boxN qe101 nba :: boxN qe91 nab :: boxE qe81 :: boxV qvc1 c :: boxV qvb1 b :: boxV qva1 a :: heapR h H :: refR y H :: boxR q3 (.cells #[.int .i64 x0.kind, .int .i64 x0.n, .string x0.s, .int .i64 x1.kind, .int .i64 x1.n, .string x1.s, .int .i64 x2.kind, .int .i64 x2.n, .string x2.s] 54) :: []) w20 := by rw [Hb13_18.out] at S; exact S
  clear Hb13_18 Kb13_18 K13_3 Cb13_18_0 Cb13_18_1
  refine named (boxW qv131 k1 n1 ⟨#[]⟩ :: boxN qe132 nab :: boxN qe121 nac :: boxN qe111 nbc :: boxN qe101 nba :: boxN qe91 nab :: boxE qe81 :: boxV qvc1 c :: boxV qvb1 b :: boxV qva1 a :: heapR h H :: refR y H :: boxR q3 (.cells #[.int .i64 x0.kind, .int .i64 x0.n, .string x0.s, .int .i64 x1.kind, .int .i64 x1.n, .string x1.s, .int .i64 x2.kind, .int .i64 x2.n, .string x2.s] 54) :: [] : List Res) fun b14_20 hb14_20 => ?_
  have Hb14_20 := Lib.hid hb14_20
  have Kb14_20 : Hid (∀ W (Q : List Res), Sep w (Q ++ b14_20) W → True) := Lib.hid fun W Q T => by
    rw [hb14_20] at T
    trivial
  have Cb14_20_0 := baseC3 (w := w) (b := qva1) hb14_20 9 rfl
  have Cb14_20_1 := baseC3 (w := w) (b := qvb1) hb14_20 8 rfl
  have K14_3 : KC w b14_20 18 #[hpV h, .string ⟨#[33, 61]⟩, agV a, agV b] (.tuple #[.agg #[.int .i64 k1, .int .i64 n2, .string ⟨#[]⟩], excN nab]) := Lib.hid fun W Q T => by
    rw [Hb14_20.out] at T ⊢
    exact cmp_ne HF.out.G (by decide) T (Q.length + 10) (atR rfl) a b _ (by rw [HRab.out, cmpV_ne, ← Hk1.out, ← Hn2.out, ← HNab.out])
  replace S := Lib.hid S
  clear hb14_20
  go_upto_region 14 with fail
  have S1 : Sep w ([] ++ b14_20) (w20) := by rw [Hb14_20.out]; exact S.out
  clear S
  refine regionL (E := [emptyR, emptyR]) (base := b14_20) (Sep.putE (Sep.putE S1)) ?_
  clear S1
  refine quietL ?_
  simp only [Act.put, pa]; try dsimp only [List.set]
  refine quietLC Cb14_20_0 ?_
  simp only [Act.put, pa]; try dsimp only [List.set]
  refine quietLC Cb14_20_1 ?_
  simp only [Act.put, pa]; try dsimp only [List.set]
  refine quietLK K14_3 ?_
  simp only [Act.put, pa]; try dsimp only [List.set]
  iterate 3 (refine quietL ?_; simp only [Act.put, pa]; try dsimp only [List.set])
  refine allocL 0 rfl (fun q => .pointer (some ⟨q, 0, none⟩)) (.cells #[.int .i64 0, .int .i64 0, .string ⟨#[]⟩] 29) (h1 := fun Wx => by go_simp) (h2 := fun qv141 => ?_)
  simp only [Act.put, pa]; try dsimp only [List.set]
  try simp only [List.set_cons_zero, List.set_cons_succ]
  refine allocL 1 rfl (fun q => .pointer (some ⟨q, 0, none⟩)) (.cells #[.string ⟨#[]⟩, .int .i64 0, .int .i64 0, .string ⟨#[]⟩, .bool false] 38) (h1 := fun Wx => by go_simp) (h2 := fun qe142 => ?_)
  simp only [Act.put, pa]; try dsimp only [List.set]
  try simp only [List.set_cons_zero, List.set_cons_succ]
  refine detL undef [boxW qv141 k1 n2 ⟨#[]⟩, boxE qe142] (h1 := fun Wx hSw => by (have hz := hSw.box (b := qv141) (o := objZ) 0 rfl; refine useZ3 hz fun z0 z1 z2 y0 y1 y2 => ?_; go_simp; exact ⟨rfl, hSw.set3 0 rfl (.int .i64 k1) (.int .i64 n2) (.string ⟨#[]⟩)⟩)) (h2 := ?_)
  simp only [Act.put, pa]; try dsimp only [List.set]
  refine detL undef [boxW qv141 k1 n2 ⟨#[]⟩, boxN qe142 nab] (h1 := fun Wx hSw => by (have hz := hSw.box (b := qe142) (o := objE) 1 rfl; refine useZ5 hz fun z0 z1 z2 z3 z4 y0 y1 y2 y3 y4 => ?_; go_simp; exact ⟨rfl, hSw.set5 1 rfl (.string nab) (.int .i64 0) (.int .i64 0) (.string ⟨#[]⟩) (.bool false)⟩)) (h2 := ?_)
  simp only [Act.put, pa]; try dsimp only [List.set]
  refine doneL (h := fun w22 S => ?_)
  replace S : Sep w (boxW qv141 k1 n2 ⟨#[]⟩ :: boxN qe142 nab :: boxW qv131 k1 n1 ⟨#[]⟩ :: boxN qe132 nab :: boxN qe121 nac :: boxN qe111 nbc :: boxN qe101 nba :: boxN qe91 nab :: boxE qe81 :: boxV qvc1 c :: boxV qvb1 b :: boxV qva1 a :: heapR h H :: refR y H :: boxR q3 (.cells #[.int .i64 x0.kind, .int .i64 x0.n, .string x0.s, .int .i64 x1.kind, .int .i64 x1.n, .string x1.s, .int .i64 x2.kind, .int .i64 x2.n, .string x2.s] 54) :: []) w22 := by rw [Hb14_20.out] at S; exact S
  clear Hb14_20 Kb14_20 K14_3 Cb14_20_0 Cb14_20_1
  refine named (boxW qv141 k1 n2 ⟨#[]⟩ :: boxN qe142 nab :: boxW qv131 k1 n1 ⟨#[]⟩ :: boxN qe132 nab :: boxN qe121 nac :: boxN qe111 nbc :: boxN qe101 nba :: boxN qe91 nab :: boxE qe81 :: boxV qvc1 c :: boxV qvb1 b :: boxV qva1 a :: heapR h H :: refR y H :: boxR q3 (.cells #[.int .i64 x0.kind, .int .i64 x0.n, .string x0.s, .int .i64 x1.kind, .int .i64 x1.n, .string x1.s, .int .i64 x2.kind, .int .i64 x2.n, .string x2.s] 54) :: [] : List Res) fun b15_22 hb15_22 => ?_
  have Hb15_22 := Lib.hid hb15_22
  have Kb15_22 : Hid (∀ W (Q : List Res), Sep w (Q ++ b15_22) W → True) := Lib.hid fun W Q T => by
    rw [hb15_22] at T
    trivial
  have Cb15_22_0 := baseC5 (w := w) (b := qe132) hb15_22 3 rfl
  have Cb15_22_1 := baseC5 (w := w) (b := qe142) hb15_22 1 rfl
  have Cb15_22_2 := baseC5 (w := w) (b := qe81) hb15_22 8 rfl
  have Cb15_22_3 := baseC5 (w := w) (b := qe91) hb15_22 7 rfl
  have K15_4 : KC w b15_22 19 #[excZ] (.bool true) := Lib.hid fun W Q T => by
    exact (none_z W).mono fun e W' ⟨e1, e2⟩ => ⟨e1, T.later e2⟩
  replace S := Lib.hid S
  clear hb15_22
  go_upto_region 15 with fail
  have S1 : Sep w ([] ++ b15_22) (w22) := by rw [Hb15_22.out]; exact S.out
  clear S
  refine regionL (E := []) (base := b15_22) S1 ?_
  clear S1
  iterate 3 (refine quietL ?_; simp only [Act.put, pa]; try dsimp only [List.set])
  refine quietLC Cb15_22_2 ?_
  simp only [Act.put, pa]; try dsimp only [List.set]
  refine quietLK K15_4 ?_
  simp only [Act.put, pa]; try dsimp only [List.set]
  iterate 3 (refine quietL ?_; simp only [Act.put, pa]; try dsimp only [List.set])
  refine quietLC Cb15_22_0 ?_
  simp only [Act.put, pa]; try dsimp only [List.set]
  refine quietLC Cb15_22_3 ?_
  simp only [Act.put, pa]; try dsimp only [List.set]
  iterate 3 (refine quietL ?_; simp only [Act.put, pa]; try dsimp only [List.set])
  refine quietLC Cb15_22_1 ?_
  simp only [Act.put, pa]; try dsimp only [List.set]
  refine quietLC Cb15_22_3 ?_
  simp only [Act.put, pa]; try dsimp only [List.set]
  iterate 2 (refine quietL ?_; simp only [Act.put, pa]; try dsimp only [List.set])
  refine doneL (h := fun w24 S => ?_)
  replace S : Sep w (boxW qv141 k1 n2 ⟨#[]⟩ :: boxN qe142 nab :: boxW qv131 k1 n1 ⟨#[]⟩ :: boxN qe132 nab :: boxN qe121 nac :: boxN qe111 nbc :: boxN qe101 nba :: boxN qe91 nab :: boxE qe81 :: boxV qvc1 c :: boxV qvb1 b :: boxV qva1 a :: heapR h H :: refR y H :: boxR q3 (.cells #[.int .i64 x0.kind, .int .i64 x0.n, .string x0.s, .int .i64 x1.kind, .int .i64 x1.n, .string x1.s, .int .i64 x2.kind, .int .i64 x2.n, .string x2.s] 54) :: []) w24 := by rw [Hb15_22.out] at S; exact S
  clear Hb15_22 Kb15_22 K15_4 Cb15_22_0 Cb15_22_1 Cb15_22_2 Cb15_22_3
  go_upto_region 17 with fail
  go_cut [139] (fun s139 wx => s139 = .bool false ∧ Sep w (boxW qv141 k1 n2 ⟨#[]⟩ :: boxN qe142 nab :: boxW qv131 k1 n1 ⟨#[]⟩ :: boxN qe132 nab :: boxN qe121 nac :: boxN qe111 nbc :: boxN qe101 nba :: boxN qe91 nab :: boxE qe81 :: boxV qvc1 c :: boxV qvb1 b :: boxV qva1 a :: heapR h H :: refR y H :: boxR q3 (.cells #[.int .i64 x0.kind, .int .i64 x0.n, .string x0.s, .int .i64 x1.kind, .int .i64 x1.n, .string x1.s, .int .i64 x2.kind, .int .i64 x2.n, .string x2.s] 54) :: []) wx)
  case first =>
    by_cases hab : rab = none
    ·
      have HXab := Lib.hid hab
      clear hab
      refine named (boxW qv141 k1 n2 ⟨#[]⟩ :: boxN qe142 nab :: boxW qv131 k1 n1 ⟨#[]⟩ :: boxN qe132 nab :: boxN qe121 nac :: boxN qe111 nbc :: boxN qe101 nba :: boxN qe91 nab :: boxE qe81 :: boxV qvc1 c :: boxV qvb1 b :: boxV qva1 a :: heapR h H :: refR y H :: boxR q3 (.cells #[.int .i64 x0.kind, .int .i64 x0.n, .string x0.s, .int .i64 x1.kind, .int .i64 x1.n, .string x1.s, .int .i64 x2.kind, .int .i64 x2.n, .string x2.s] 54) :: [] : List Res) fun b17_44 hb17_44 => ?_
      have Hb17_44 := Lib.hid hb17_44
      have Kb17_44 : Hid (∀ W (Q : List Res), Sep w (Q ++ b17_44) W → True) := Lib.hid fun W Q T => by
        rw [hb17_44] at T
        trivial
      have Cb17_44_0 := baseC5 (w := w) (b := qe91) hb17_44 7 rfl
      have K17_1 : KC w b17_44 19 #[excN nab] (.bool false) := Lib.hid fun W Q T => by
        exact (none_no W HNab.out HXab.out).mono fun e W' ⟨e1, e2⟩ => ⟨e1, T.later e2⟩
      have K17_17 : KC w b17_44 19 #[excN nab] (.bool false) := Lib.hid fun W Q T => by
        exact (none_no W HNab.out HXab.out).mono fun e W' ⟨e1, e2⟩ => ⟨e1, T.later e2⟩
      replace S := Lib.hid S
      clear hb17_44
      have S1 : Sep w ([] ++ b17_44) (w24) := by rw [Hb17_44.out]; exact S.out
      clear S
      refine regionP 28 0 (E := []) (base := b17_44) S1 ?_
      clear S1
      refine quietPC Cb17_44_0 ?_
      simp only [Act.put, pa]; try dsimp only [List.set]
      refine quietPK K17_1 ?_
      simp only [Act.put, pa]; try dsimp only [List.set]
      refine quietP ?_
      simp only [Act.put, pa]; try dsimp only [List.set]
      iterate 11 (refine skipP ?_; simp only [Act.put, pa]; try dsimp only [List.set])
      iterate 2 (refine quietP ?_; simp only [Act.put, pa]; try dsimp only [List.set])
      refine quietPC Cb17_44_0 ?_
      simp only [Act.put, pa]; try dsimp only [List.set]
      refine quietPK K17_17 ?_
      simp only [Act.put, pa]; try dsimp only [List.set]
      refine quietP ?_
      simp only [Act.put, pa]; try dsimp only [List.set]
      iterate 2 (refine skipP ?_; simp only [Act.put, pa]; try dsimp only [List.set])
      iterate 2 (refine quietP ?_; simp only [Act.put, pa]; try dsimp only [List.set])
      iterate 3 (refine skipP ?_; simp only [Act.put, pa]; try dsimp only [List.set])
      iterate 2 (refine quietP ?_; simp only [Act.put, pa]; try dsimp only [List.set])
      refine endP ?_
      refine doneS (h := fun w46 S => ?_)
      replace S : Sep w (boxW qv141 k1 n2 ⟨#[]⟩ :: boxN qe142 nab :: boxW qv131 k1 n1 ⟨#[]⟩ :: boxN qe132 nab :: boxN qe121 nac :: boxN qe111 nbc :: boxN qe101 nba :: boxN qe91 nab :: boxE qe81 :: boxV qvc1 c :: boxV qvb1 b :: boxV qva1 a :: heapR h H :: refR y H :: boxR q3 (.cells #[.int .i64 x0.kind, .int .i64 x0.n, .string x0.s, .int .i64 x1.kind, .int .i64 x1.n, .string x1.s, .int .i64 x2.kind, .int .i64 x2.n, .string x2.s] 54) :: []) w46 := by rw [Hb17_44.out] at S; exact S
      clear Hb17_44 Kb17_44 K17_1 K17_17 Cb17_44_0
      replace S := Lib.hid S
      go_wp2_with fail
      go_meet
      exact ⟨rfl, S.out⟩
    ·
      have HXab : Hid (rab.isSome = true) := Lib.hid (Option.isSome_iff_ne_none.2 hab)
      clear hab
      obtain ⟨x, hx⟩ : ∃ x, rab = some x := Option.isSome_iff_exists.1 HXab.out
      have hk1 : k1 = 1 := by rw [Hk1.out, hx]; rfl
      have hy1 : (if bab = true then (1 : Int) else 0) = n1 := by rw [HBab.out, Hn1.out, hx]; cases x <;> rfl
      have hy2 : (if (!bab) = true then (1 : Int) else 0) = n2 := by rw [HBab.out, Hn2.out, hx]; cases x <;> rfl
      have HYn1 := Lib.hid hy1
      have HYn2 := Lib.hid hy2
      have HX := Lib.hid hx
      clear hy1 hy2 hx
      by_cases hba : rba = none
      ·
        have HXba := Lib.hid hba
        clear hba
        refine named (boxW qv141 k1 n2 ⟨#[]⟩ :: boxN qe142 nab :: boxW qv131 k1 n1 ⟨#[]⟩ :: boxN qe132 nab :: boxN qe121 nac :: boxN qe111 nbc :: boxN qe101 nba :: boxN qe91 nab :: boxE qe81 :: boxV qvc1 c :: boxV qvb1 b :: boxV qva1 a :: heapR h H :: refR y H :: boxR q3 (.cells #[.int .i64 x0.kind, .int .i64 x0.n, .string x0.s, .int .i64 x1.kind, .int .i64 x1.n, .string x1.s, .int .i64 x2.kind, .int .i64 x2.n, .string x2.s] 54) :: [] : List Res) fun b17_64 hb17_64 => ?_
        have Hb17_64 := Lib.hid hb17_64
        have Kb17_64 : Hid (∀ W (Q : List Res), Sep w (Q ++ b17_64) W → True) := Lib.hid fun W Q T => by
          rw [hb17_64] at T
          trivial
        have Cb17_64_0 := baseC5 (w := w) (b := qe101) hb17_64 6 rfl
        have Cb17_64_1 := baseC5 (w := w) (b := qe91) hb17_64 7 rfl
        have Cb17_64_2 := baseC3 (w := w) (b := qv131) hb17_64 2 rfl
        have Cb17_64_3 := baseC3 (w := w) (b := qv141) hb17_64 0 rfl
        have K17_1 : KC w b17_64 19 #[excN nab] (.bool true) := Lib.hid fun W Q T => by
          exact (none_some W HNab.out HXab.out).mono fun e W' ⟨e1, e2⟩ => ⟨e1, T.later e2⟩
        have K17_5 : KC w b17_64 20 #[.bool bab] (.agg #[.int .i64 1, .int .i64 n1, .string ⟨#[]⟩]) := Lib.hid fun W Q T => by
          rw [Hb17_64.out] at T ⊢
          exact (by have hh := lyes_ok W (bab); rw [HYn1.out] at hh; exact hh.mono fun e W' ⟨e1, e2⟩ => ⟨e1, T.later e2⟩)
        have K17_11 : KC w b17_64 20 #[.bool !bab] (.agg #[.int .i64 1, .int .i64 n2, .string ⟨#[]⟩]) := Lib.hid fun W Q T => by
          rw [Hb17_64.out] at T ⊢
          exact (by have hh := lyes_ok W (!bab); rw [HYn2.out] at hh; exact hh.mono fun e W' ⟨e1, e2⟩ => ⟨e1, T.later e2⟩)
        have K17_17 : KC w b17_64 19 #[excN nab] (.bool true) := Lib.hid fun W Q T => by
          exact (none_some W HNab.out HXab.out).mono fun e W' ⟨e1, e2⟩ => ⟨e1, T.later e2⟩
        have K17_20 : KC w b17_64 19 #[excN nba] (.bool false) := Lib.hid fun W Q T => by
          exact (none_no W HNba.out HXba.out).mono fun e W' ⟨e1, e2⟩ => ⟨e1, T.later e2⟩
        replace S := Lib.hid S
        clear hb17_64
        have S1 : Sep w ([] ++ b17_64) (w24) := by rw [Hb17_64.out]; exact S.out
        clear S
        refine regionP 28 0 (E := []) (base := b17_64) S1 ?_
        clear S1
        refine quietPC Cb17_64_1 ?_
        simp only [Act.put, pa]; try dsimp only [List.set]
        refine quietPK K17_1 ?_
        simp only [Act.put, pa]; try dsimp only [List.set]
        refine quietP ?_
        simp only [Act.put, pa]; try dsimp only [List.set]
        refine quietPC Cb17_64_2 ?_
        simp only [Act.put, pa]; try dsimp only [List.set]
        refine quietP ?_
        simp only [Act.put, pa]; try dsimp only [List.set]
        refine quietPK K17_5 ?_
        simp only [Act.put, pa]; try dsimp only [List.set]
        iterate 2 (refine quietP ?_; simp only [Act.put, pa]; try dsimp only [List.set])
        refine quietPC Cb17_64_3 ?_
        simp only [Act.put, pa]; try dsimp only [List.set]
        iterate 2 (refine quietP ?_; simp only [Act.put, pa]; try dsimp only [List.set])
        refine quietPK K17_11 ?_
        simp only [Act.put, pa]; try dsimp only [List.set]
        iterate 4 (refine quietP ?_; simp only [Act.put, pa]; try dsimp only [List.set])
        refine quietPC Cb17_64_1 ?_
        simp only [Act.put, pa]; try dsimp only [List.set]
        refine quietPK K17_17 ?_
        simp only [Act.put, pa]; try dsimp only [List.set]
        refine quietP ?_
        simp only [Act.put, pa]; try dsimp only [List.set]
        refine quietPC Cb17_64_0 ?_
        simp only [Act.put, pa]; try dsimp only [List.set]
        refine quietPK K17_20 ?_
        simp only [Act.put, pa]; try dsimp only [List.set]
        iterate 2 (refine quietP ?_; simp only [Act.put, pa]; try dsimp only [List.set])
        iterate 3 (refine skipP ?_; simp only [Act.put, pa]; try dsimp only [List.set])
        iterate 2 (refine quietP ?_; simp only [Act.put, pa]; try dsimp only [List.set])
        refine endP ?_
        refine doneS (h := fun w66 S => ?_)
        replace S : Sep w (boxW qv141 k1 n2 ⟨#[]⟩ :: boxN qe142 nab :: boxW qv131 k1 n1 ⟨#[]⟩ :: boxN qe132 nab :: boxN qe121 nac :: boxN qe111 nbc :: boxN qe101 nba :: boxN qe91 nab :: boxE qe81 :: boxV qvc1 c :: boxV qvb1 b :: boxV qva1 a :: heapR h H :: refR y H :: boxR q3 (.cells #[.int .i64 x0.kind, .int .i64 x0.n, .string x0.s, .int .i64 x1.kind, .int .i64 x1.n, .string x1.s, .int .i64 x2.kind, .int .i64 x2.n, .string x2.s] 54) :: []) w66 := by rw [Hb17_64.out] at S; exact S
        clear Hb17_64 Kb17_64 K17_1 K17_5 K17_11 K17_17 K17_20 Cb17_64_0 Cb17_64_1 Cb17_64_2 Cb17_64_3
        replace S := Lib.hid S
        go_wp2_with fail
        go_meet
        exact ⟨rfl, S.out⟩
      ·
        have HXba : Hid (rba.isSome = true) := Lib.hid (Option.isSome_iff_ne_none.2 hba)
        clear hba
        obtain ⟨z, hz⟩ : ∃ x, rba = some x := Option.isSome_iff_exists.1 HXba.out
        have hbb : bab = bba := by rw [HBba.out, HBab.out, HX.out, hz]; have := same_turn (fun p hp => (HF.out.P p hp).nd) (HRab.out.trans HX.out) (HRba.out.trans hz); rw [this]
        subst hbb
        clear hz
        refine named (boxW qv141 k1 n2 ⟨#[]⟩ :: boxN qe142 nab :: boxW qv131 k1 n1 ⟨#[]⟩ :: boxN qe132 nab :: boxN qe121 nac :: boxN qe111 nbc :: boxN qe101 nba :: boxN qe91 nab :: boxE qe81 :: boxV qvc1 c :: boxV qvb1 b :: boxV qva1 a :: heapR h H :: refR y H :: boxR q3 (.cells #[.int .i64 x0.kind, .int .i64 x0.n, .string x0.s, .int .i64 x1.kind, .int .i64 x1.n, .string x1.s, .int .i64 x2.kind, .int .i64 x2.n, .string x2.s] 54) :: [] : List Res) fun b17_84 hb17_84 => ?_
        have Hb17_84 := Lib.hid hb17_84
        have Kb17_84 : Hid (∀ W (Q : List Res), Sep w (Q ++ b17_84) W → True) := Lib.hid fun W Q T => by
          rw [hb17_84] at T
          trivial
        have Cb17_84_0 := baseC5 (w := w) (b := qe101) hb17_84 6 rfl
        have Cb17_84_1 := baseC5 (w := w) (b := qe91) hb17_84 7 rfl
        have Cb17_84_2 := baseC3 (w := w) (b := qv131) hb17_84 2 rfl
        have Cb17_84_3 := baseC3 (w := w) (b := qv141) hb17_84 0 rfl
        have K17_1 : KC w b17_84 19 #[excN nab] (.bool true) := Lib.hid fun W Q T => by
          exact (none_some W HNab.out HXab.out).mono fun e W' ⟨e1, e2⟩ => ⟨e1, T.later e2⟩
        have K17_5 : KC w b17_84 20 #[.bool bab] (.agg #[.int .i64 1, .int .i64 n1, .string ⟨#[]⟩]) := Lib.hid fun W Q T => by
          rw [Hb17_84.out] at T ⊢
          exact (by have hh := lyes_ok W (bab); rw [HYn1.out] at hh; exact hh.mono fun e W' ⟨e1, e2⟩ => ⟨e1, T.later e2⟩)
        have K17_11 : KC w b17_84 20 #[.bool !bab] (.agg #[.int .i64 1, .int .i64 n2, .string ⟨#[]⟩]) := Lib.hid fun W Q T => by
          rw [Hb17_84.out] at T ⊢
          exact (by have hh := lyes_ok W (!bab); rw [HYn2.out] at hh; exact hh.mono fun e W' ⟨e1, e2⟩ => ⟨e1, T.later e2⟩)
        have K17_17 : KC w b17_84 19 #[excN nab] (.bool true) := Lib.hid fun W Q T => by
          exact (none_some W HNab.out HXab.out).mono fun e W' ⟨e1, e2⟩ => ⟨e1, T.later e2⟩
        have K17_20 : KC w b17_84 19 #[excN nba] (.bool true) := Lib.hid fun W Q T => by
          exact (none_some W HNba.out HXba.out).mono fun e W' ⟨e1, e2⟩ => ⟨e1, T.later e2⟩
        replace S := Lib.hid S
        clear hb17_84
        have S1 : Sep w ([] ++ b17_84) (w24) := by rw [Hb17_84.out]; exact S.out
        clear S
        refine regionP 28 0 (E := []) (base := b17_84) S1 ?_
        clear S1
        refine quietPC Cb17_84_1 ?_
        simp only [Act.put, pa]; try dsimp only [List.set]
        refine quietPK K17_1 ?_
        simp only [Act.put, pa]; try dsimp only [List.set]
        refine quietP ?_
        simp only [Act.put, pa]; try dsimp only [List.set]
        refine quietPC Cb17_84_2 ?_
        simp only [Act.put, pa]; try dsimp only [List.set]
        refine quietP ?_
        simp only [Act.put, pa]; try dsimp only [List.set]
        refine quietPK K17_5 ?_
        simp only [Act.put, pa]; try dsimp only [List.set]
        iterate 2 (refine quietP ?_; simp only [Act.put, pa]; try dsimp only [List.set])
        refine quietPC Cb17_84_3 ?_
        simp only [Act.put, pa]; try dsimp only [List.set]
        iterate 2 (refine quietP ?_; simp only [Act.put, pa]; try dsimp only [List.set])
        refine quietPK K17_11 ?_
        simp only [Act.put, pa]; try dsimp only [List.set]
        iterate 4 (refine quietP ?_; simp only [Act.put, pa]; try dsimp only [List.set])
        refine quietPC Cb17_84_1 ?_
        simp only [Act.put, pa]; try dsimp only [List.set]
        refine quietPK K17_17 ?_
        simp only [Act.put, pa]; try dsimp only [List.set]
        refine quietP ?_
        simp only [Act.put, pa]; try dsimp only [List.set]
        refine quietPC Cb17_84_0 ?_
        simp only [Act.put, pa]; try dsimp only [List.set]
        refine quietPK K17_20 ?_
        simp only [Act.put, pa]; try dsimp only [List.set]
        iterate 7 (refine quietP ?_; simp only [Act.put, pa]; try dsimp only [List.set])
        refine endP ?_
        refine doneS (h := fun w86 S => ?_)
        replace S : Sep w (boxW qv141 k1 n2 ⟨#[]⟩ :: boxN qe142 nab :: boxW qv131 k1 n1 ⟨#[]⟩ :: boxN qe132 nab :: boxN qe121 nac :: boxN qe111 nbc :: boxN qe101 nba :: boxN qe91 nab :: boxE qe81 :: boxV qvc1 c :: boxV qvb1 b :: boxV qva1 a :: heapR h H :: refR y H :: boxR q3 (.cells #[.int .i64 x0.kind, .int .i64 x0.n, .string x0.s, .int .i64 x1.kind, .int .i64 x1.n, .string x1.s, .int .i64 x2.kind, .int .i64 x2.n, .string x2.s] 54) :: []) w86 := by rw [Hb17_84.out] at S; exact S
        clear Hb17_84 Kb17_84 K17_1 K17_5 K17_11 K17_17 K17_20 Cb17_84_0 Cb17_84_1 Cb17_84_2 Cb17_84_3
        replace S := Lib.hid S
        go_wp2_with fail
        go_meet
        exact ⟨rfl, S.out⟩
  case rest =>
    obtain ⟨rfl, S⟩ := hcut
    go_upto_region 19 with fail
    go_cut [4] (fun s4 wx => s4 = .bool true ∧ Sep w (boxW qv141 k1 n2 ⟨#[]⟩ :: boxN qe142 nab :: boxW qv131 k1 n1 ⟨#[]⟩ :: boxN qe132 nab :: boxN qe121 nac :: boxN qe111 nbc :: boxN qe101 nba :: boxN qe91 nab :: boxE qe81 :: boxV qvc1 c :: boxV qvb1 b :: boxV qva1 a :: heapR h H :: refR y H :: boxR q3 (.cells #[.int .i64 x0.kind, .int .i64 x0.n, .string x0.s, .int .i64 x1.kind, .int .i64 x1.n, .string x1.s, .int .i64 x2.kind, .int .i64 x2.n, .string x2.s] 54) :: []) wx)
    case first =>
      by_cases hab : rab = none
      ·
        have HXab := Lib.hid hab
        clear hab
        refine named (boxW qv141 k1 n2 ⟨#[]⟩ :: boxN qe142 nab :: boxW qv131 k1 n1 ⟨#[]⟩ :: boxN qe132 nab :: boxN qe121 nac :: boxN qe111 nbc :: boxN qe101 nba :: boxN qe91 nab :: boxE qe81 :: boxV qvc1 c :: boxV qvb1 b :: boxV qva1 a :: heapR h H :: refR y H :: boxR q3 (.cells #[.int .i64 x0.kind, .int .i64 x0.n, .string x0.s, .int .i64 x1.kind, .int .i64 x1.n, .string x1.s, .int .i64 x2.kind, .int .i64 x2.n, .string x2.s] 54) :: [] : List Res) fun b19_244 hb19_244 => ?_
        have Hb19_244 := Lib.hid hb19_244
        have Kb19_244 : Hid (∀ W (Q : List Res), Sep w (Q ++ b19_244) W → True) := Lib.hid fun W Q T => by
          rw [hb19_244] at T
          trivial
        have Cb19_244_0 := baseC5 (w := w) (b := qe91) hb19_244 7 rfl
        have K19_1 : KC w b19_244 19 #[excN nab] (.bool false) := Lib.hid fun W Q T => by
          exact (none_no W HNab.out HXab.out).mono fun e W' ⟨e1, e2⟩ => ⟨e1, T.later e2⟩
        replace S := Lib.hid S
        clear hb19_244
        have S1 : Sep w ([] ++ b19_244) (wc) := by rw [Hb19_244.out]; exact S.out
        clear S
        refine regionL (E := []) (base := b19_244) S1 ?_
        clear S1
        refine quietLC Cb19_244_0 ?_
        simp only [Act.put, pa]; try dsimp only [List.set]
        refine quietLK K19_1 ?_
        simp only [Act.put, pa]; try dsimp only [List.set]
        iterate 2 (refine quietL ?_; simp only [Act.put, pa]; try dsimp only [List.set])
        iterate 3 (refine skipL ?_; simp only [Act.put, pa]; try dsimp only [List.set])
        iterate 2 (refine quietL ?_; simp only [Act.put, pa]; try dsimp only [List.set])
        iterate 3 (refine skipL ?_; simp only [Act.put, pa]; try dsimp only [List.set])
        iterate 2 (refine quietL ?_; simp only [Act.put, pa]; try dsimp only [List.set])
        iterate 2 (refine skipL ?_; simp only [Act.put, pa]; try dsimp only [List.set])
        iterate 2 (refine quietL ?_; simp only [Act.put, pa]; try dsimp only [List.set])
        iterate 3 (refine skipL ?_; simp only [Act.put, pa]; try dsimp only [List.set])
        iterate 2 (refine quietL ?_; simp only [Act.put, pa]; try dsimp only [List.set])
        refine doneL (h := fun w246 S => ?_)
        replace S : Sep w (boxW qv141 k1 n2 ⟨#[]⟩ :: boxN qe142 nab :: boxW qv131 k1 n1 ⟨#[]⟩ :: boxN qe132 nab :: boxN qe121 nac :: boxN qe111 nbc :: boxN qe101 nba :: boxN qe91 nab :: boxE qe81 :: boxV qvc1 c :: boxV qvb1 b :: boxV qva1 a :: heapR h H :: refR y H :: boxR q3 (.cells #[.int .i64 x0.kind, .int .i64 x0.n, .string x0.s, .int .i64 x1.kind, .int .i64 x1.n, .string x1.s, .int .i64 x2.kind, .int .i64 x2.n, .string x2.s] 54) :: []) w246 := by rw [Hb19_244.out] at S; exact S
        clear Hb19_244 Kb19_244 K19_1 Cb19_244_0
        replace S := Lib.hid S
        go_wp2_with fail
        go_meet
        exact ⟨rfl, S.out⟩
      ·
        have HXab : Hid (rab.isSome = true) := Lib.hid (Option.isSome_iff_ne_none.2 hab)
        clear hab
        by_cases hbc : rbc = none
        ·
          have HXbc := Lib.hid hbc
          clear hbc
          refine named (boxW qv141 k1 n2 ⟨#[]⟩ :: boxN qe142 nab :: boxW qv131 k1 n1 ⟨#[]⟩ :: boxN qe132 nab :: boxN qe121 nac :: boxN qe111 nbc :: boxN qe101 nba :: boxN qe91 nab :: boxE qe81 :: boxV qvc1 c :: boxV qvb1 b :: boxV qva1 a :: heapR h H :: refR y H :: boxR q3 (.cells #[.int .i64 x0.kind, .int .i64 x0.n, .string x0.s, .int .i64 x1.kind, .int .i64 x1.n, .string x1.s, .int .i64 x2.kind, .int .i64 x2.n, .string x2.s] 54) :: [] : List Res) fun b19_264 hb19_264 => ?_
          have Hb19_264 := Lib.hid hb19_264
          have Kb19_264 : Hid (∀ W (Q : List Res), Sep w (Q ++ b19_264) W → True) := Lib.hid fun W Q T => by
            rw [hb19_264] at T
            trivial
          have Cb19_264_0 := baseC5 (w := w) (b := qe111) hb19_264 5 rfl
          have Cb19_264_1 := baseC5 (w := w) (b := qe91) hb19_264 7 rfl
          have K19_1 : KC w b19_264 19 #[excN nab] (.bool true) := Lib.hid fun W Q T => by
            exact (none_some W HNab.out HXab.out).mono fun e W' ⟨e1, e2⟩ => ⟨e1, T.later e2⟩
          have K19_5 : KC w b19_264 19 #[excN nbc] (.bool false) := Lib.hid fun W Q T => by
            exact (none_no W HNbc.out HXbc.out).mono fun e W' ⟨e1, e2⟩ => ⟨e1, T.later e2⟩
          replace S := Lib.hid S
          clear hb19_264
          have S1 : Sep w ([] ++ b19_264) (wc) := by rw [Hb19_264.out]; exact S.out
          clear S
          refine regionL (E := []) (base := b19_264) S1 ?_
          clear S1
          refine quietLC Cb19_264_1 ?_
          simp only [Act.put, pa]; try dsimp only [List.set]
          refine quietLK K19_1 ?_
          simp only [Act.put, pa]; try dsimp only [List.set]
          iterate 2 (refine quietL ?_; simp only [Act.put, pa]; try dsimp only [List.set])
          refine quietLC Cb19_264_0 ?_
          simp only [Act.put, pa]; try dsimp only [List.set]
          refine quietLK K19_5 ?_
          simp only [Act.put, pa]; try dsimp only [List.set]
          iterate 3 (refine quietL ?_; simp only [Act.put, pa]; try dsimp only [List.set])
          iterate 3 (refine skipL ?_; simp only [Act.put, pa]; try dsimp only [List.set])
          iterate 2 (refine quietL ?_; simp only [Act.put, pa]; try dsimp only [List.set])
          iterate 2 (refine skipL ?_; simp only [Act.put, pa]; try dsimp only [List.set])
          iterate 2 (refine quietL ?_; simp only [Act.put, pa]; try dsimp only [List.set])
          iterate 3 (refine skipL ?_; simp only [Act.put, pa]; try dsimp only [List.set])
          iterate 2 (refine quietL ?_; simp only [Act.put, pa]; try dsimp only [List.set])
          refine doneL (h := fun w266 S => ?_)
          replace S : Sep w (boxW qv141 k1 n2 ⟨#[]⟩ :: boxN qe142 nab :: boxW qv131 k1 n1 ⟨#[]⟩ :: boxN qe132 nab :: boxN qe121 nac :: boxN qe111 nbc :: boxN qe101 nba :: boxN qe91 nab :: boxE qe81 :: boxV qvc1 c :: boxV qvb1 b :: boxV qva1 a :: heapR h H :: refR y H :: boxR q3 (.cells #[.int .i64 x0.kind, .int .i64 x0.n, .string x0.s, .int .i64 x1.kind, .int .i64 x1.n, .string x1.s, .int .i64 x2.kind, .int .i64 x2.n, .string x2.s] 54) :: []) w266 := by rw [Hb19_264.out] at S; exact S
          clear Hb19_264 Kb19_264 K19_1 K19_5 Cb19_264_0 Cb19_264_1
          replace S := Lib.hid S
          go_wp2_with fail
          go_meet
          exact ⟨rfl, S.out⟩
        ·
          have HXbc : Hid (rbc.isSome = true) := Lib.hid (Option.isSome_iff_ne_none.2 hbc)
          clear hbc
          by_cases hac : rac = none
          ·
            have HXac := Lib.hid hac
            clear hac
            refine named (boxW qv141 k1 n2 ⟨#[]⟩ :: boxN qe142 nab :: boxW qv131 k1 n1 ⟨#[]⟩ :: boxN qe132 nab :: boxN qe121 nac :: boxN qe111 nbc :: boxN qe101 nba :: boxN qe91 nab :: boxE qe81 :: boxV qvc1 c :: boxV qvb1 b :: boxV qva1 a :: heapR h H :: refR y H :: boxR q3 (.cells #[.int .i64 x0.kind, .int .i64 x0.n, .string x0.s, .int .i64 x1.kind, .int .i64 x1.n, .string x1.s, .int .i64 x2.kind, .int .i64 x2.n, .string x2.s] 54) :: [] : List Res) fun b19_284 hb19_284 => ?_
            have Hb19_284 := Lib.hid hb19_284
            have Kb19_284 : Hid (∀ W (Q : List Res), Sep w (Q ++ b19_284) W → True) := Lib.hid fun W Q T => by
              rw [hb19_284] at T
              trivial
            have Cb19_284_0 := baseC5 (w := w) (b := qe111) hb19_284 5 rfl
            have Cb19_284_1 := baseC5 (w := w) (b := qe121) hb19_284 4 rfl
            have Cb19_284_2 := baseC5 (w := w) (b := qe91) hb19_284 7 rfl
            have K19_1 : KC w b19_284 19 #[excN nab] (.bool true) := Lib.hid fun W Q T => by
              exact (none_some W HNab.out HXab.out).mono fun e W' ⟨e1, e2⟩ => ⟨e1, T.later e2⟩
            have K19_5 : KC w b19_284 19 #[excN nbc] (.bool true) := Lib.hid fun W Q T => by
              exact (none_some W HNbc.out HXbc.out).mono fun e W' ⟨e1, e2⟩ => ⟨e1, T.later e2⟩
            have K19_10 : KC w b19_284 19 #[excN nac] (.bool false) := Lib.hid fun W Q T => by
              exact (none_no W HNac.out HXac.out).mono fun e W' ⟨e1, e2⟩ => ⟨e1, T.later e2⟩
            replace S := Lib.hid S
            clear hb19_284
            have S1 : Sep w ([] ++ b19_284) (wc) := by rw [Hb19_284.out]; exact S.out
            clear S
            refine regionL (E := []) (base := b19_284) S1 ?_
            clear S1
            refine quietLC Cb19_284_2 ?_
            simp only [Act.put, pa]; try dsimp only [List.set]
            refine quietLK K19_1 ?_
            simp only [Act.put, pa]; try dsimp only [List.set]
            iterate 2 (refine quietL ?_; simp only [Act.put, pa]; try dsimp only [List.set])
            refine quietLC Cb19_284_0 ?_
            simp only [Act.put, pa]; try dsimp only [List.set]
            refine quietLK K19_5 ?_
            simp only [Act.put, pa]; try dsimp only [List.set]
            iterate 3 (refine quietL ?_; simp only [Act.put, pa]; try dsimp only [List.set])
            refine quietLC Cb19_284_1 ?_
            simp only [Act.put, pa]; try dsimp only [List.set]
            refine quietLK K19_10 ?_
            simp only [Act.put, pa]; try dsimp only [List.set]
            iterate 3 (refine quietL ?_; simp only [Act.put, pa]; try dsimp only [List.set])
            iterate 2 (refine skipL ?_; simp only [Act.put, pa]; try dsimp only [List.set])
            iterate 2 (refine quietL ?_; simp only [Act.put, pa]; try dsimp only [List.set])
            iterate 3 (refine skipL ?_; simp only [Act.put, pa]; try dsimp only [List.set])
            iterate 2 (refine quietL ?_; simp only [Act.put, pa]; try dsimp only [List.set])
            refine doneL (h := fun w286 S => ?_)
            replace S : Sep w (boxW qv141 k1 n2 ⟨#[]⟩ :: boxN qe142 nab :: boxW qv131 k1 n1 ⟨#[]⟩ :: boxN qe132 nab :: boxN qe121 nac :: boxN qe111 nbc :: boxN qe101 nba :: boxN qe91 nab :: boxE qe81 :: boxV qvc1 c :: boxV qvb1 b :: boxV qva1 a :: heapR h H :: refR y H :: boxR q3 (.cells #[.int .i64 x0.kind, .int .i64 x0.n, .string x0.s, .int .i64 x1.kind, .int .i64 x1.n, .string x1.s, .int .i64 x2.kind, .int .i64 x2.n, .string x2.s] 54) :: []) w286 := by rw [Hb19_284.out] at S; exact S
            clear Hb19_284 Kb19_284 K19_1 K19_5 K19_10 Cb19_284_0 Cb19_284_1 Cb19_284_2
            replace S := Lib.hid S
            go_wp2_with fail
            go_meet
            exact ⟨rfl, S.out⟩
          ·
            have HXac : Hid (rac.isSome = true) := Lib.hid (Option.isSome_iff_ne_none.2 hac)
            clear hac
            by_cases hbf : bab = false
            ·
              subst hbf
              refine named (boxW qv141 k1 n2 ⟨#[]⟩ :: boxN qe142 nab :: boxW qv131 k1 n1 ⟨#[]⟩ :: boxN qe132 nab :: boxN qe121 nac :: boxN qe111 nbc :: boxN qe101 nba :: boxN qe91 nab :: boxE qe81 :: boxV qvc1 c :: boxV qvb1 b :: boxV qva1 a :: heapR h H :: refR y H :: boxR q3 (.cells #[.int .i64 x0.kind, .int .i64 x0.n, .string x0.s, .int .i64 x1.kind, .int .i64 x1.n, .string x1.s, .int .i64 x2.kind, .int .i64 x2.n, .string x2.s] 54) :: [] : List Res) fun b19_304 hb19_304 => ?_
              have Hb19_304 := Lib.hid hb19_304
              have Kb19_304 : Hid (∀ W (Q : List Res), Sep w (Q ++ b19_304) W → True) := Lib.hid fun W Q T => by
                rw [hb19_304] at T
                trivial
              have Cb19_304_0 := baseC5 (w := w) (b := qe111) hb19_304 5 rfl
              have Cb19_304_1 := baseC5 (w := w) (b := qe121) hb19_304 4 rfl
              have Cb19_304_2 := baseC5 (w := w) (b := qe91) hb19_304 7 rfl
              have K19_1 : KC w b19_304 19 #[excN nab] (.bool true) := Lib.hid fun W Q T => by
                exact (none_some W HNab.out HXab.out).mono fun e W' ⟨e1, e2⟩ => ⟨e1, T.later e2⟩
              have K19_5 : KC w b19_304 19 #[excN nbc] (.bool true) := Lib.hid fun W Q T => by
                exact (none_some W HNbc.out HXbc.out).mono fun e W' ⟨e1, e2⟩ => ⟨e1, T.later e2⟩
              have K19_10 : KC w b19_304 19 #[excN nac] (.bool true) := Lib.hid fun W Q T => by
                exact (none_some W HNac.out HXac.out).mono fun e W' ⟨e1, e2⟩ => ⟨e1, T.later e2⟩
              replace S := Lib.hid S
              clear hb19_304
              have S1 : Sep w ([] ++ b19_304) (wc) := by rw [Hb19_304.out]; exact S.out
              clear S
              refine regionL (E := []) (base := b19_304) S1 ?_
              clear S1
              refine quietLC Cb19_304_2 ?_
              simp only [Act.put, pa]; try dsimp only [List.set]
              refine quietLK K19_1 ?_
              simp only [Act.put, pa]; try dsimp only [List.set]
              iterate 2 (refine quietL ?_; simp only [Act.put, pa]; try dsimp only [List.set])
              refine quietLC Cb19_304_0 ?_
              simp only [Act.put, pa]; try dsimp only [List.set]
              refine quietLK K19_5 ?_
              simp only [Act.put, pa]; try dsimp only [List.set]
              iterate 3 (refine quietL ?_; simp only [Act.put, pa]; try dsimp only [List.set])
              refine quietLC Cb19_304_1 ?_
              simp only [Act.put, pa]; try dsimp only [List.set]
              refine quietLK K19_10 ?_
              simp only [Act.put, pa]; try dsimp only [List.set]
              iterate 7 (refine quietL ?_; simp only [Act.put, pa]; try dsimp only [List.set])
              iterate 3 (refine skipL ?_; simp only [Act.put, pa]; try dsimp only [List.set])
              iterate 2 (refine quietL ?_; simp only [Act.put, pa]; try dsimp only [List.set])
              refine doneL (h := fun w306 S => ?_)
              replace S : Sep w (boxW qv141 k1 n2 ⟨#[]⟩ :: boxN qe142 nab :: boxW qv131 k1 n1 ⟨#[]⟩ :: boxN qe132 nab :: boxN qe121 nac :: boxN qe111 nbc :: boxN qe101 nba :: boxN qe91 nab :: boxE qe81 :: boxV qvc1 c :: boxV qvb1 b :: boxV qva1 a :: heapR h H :: refR y H :: boxR q3 (.cells #[.int .i64 x0.kind, .int .i64 x0.n, .string x0.s, .int .i64 x1.kind, .int .i64 x1.n, .string x1.s, .int .i64 x2.kind, .int .i64 x2.n, .string x2.s] 54) :: []) w306 := by rw [Hb19_304.out] at S; exact S
              clear Hb19_304 Kb19_304 K19_1 K19_5 K19_10 Cb19_304_0 Cb19_304_1 Cb19_304_2
              replace S := Lib.hid S
              go_wp2_with fail
              go_meet
              exact ⟨rfl, S.out⟩
            ·
              obtain rfl : bab = true := by simpa using hbf
              clear hbf
              obtain ⟨zab, hzab⟩ : ∃ x, rab = some x := Option.isSome_iff_exists.1 HXab.out
              obtain ⟨zbc, hzbc⟩ : ∃ x, rbc = some x := Option.isSome_iff_exists.1 HXbc.out
              obtain ⟨zac, hzac⟩ : ∃ x, rac = some x := Option.isSome_iff_exists.1 HXac.out
              have hbb : bac = bbc := by
                have e0 : zab = true := by have := HBab.out; rw [hzab] at this; exact this.symm
                subst e0
                rw [HBac.out, HBbc.out, hzbc, hzac]; have := same_both (fun p hp => (HF.out.P p hp).nd) (HRab.out.trans hzab) (HRbc.out.trans hzbc) (HRac.out.trans hzac); rw [this]
              subst hbb
              clear hzab hzbc hzac
              refine named (boxW qv141 k1 n2 ⟨#[]⟩ :: boxN qe142 nab :: boxW qv131 k1 n1 ⟨#[]⟩ :: boxN qe132 nab :: boxN qe121 nac :: boxN qe111 nbc :: boxN qe101 nba :: boxN qe91 nab :: boxE qe81 :: boxV qvc1 c :: boxV qvb1 b :: boxV qva1 a :: heapR h H :: refR y H :: boxR q3 (.cells #[.int .i64 x0.kind, .int .i64 x0.n, .string x0.s, .int .i64 x1.kind, .int .i64 x1.n, .string x1.s, .int .i64 x2.kind, .int .i64 x2.n, .string x2.s] 54) :: [] : List Res) fun b19_324 hb19_324 => ?_
              have Hb19_324 := Lib.hid hb19_324
              have Kb19_324 : Hid (∀ W (Q : List Res), Sep w (Q ++ b19_324) W → True) := Lib.hid fun W Q T => by
                rw [hb19_324] at T
                trivial
              have Cb19_324_0 := baseC5 (w := w) (b := qe111) hb19_324 5 rfl
              have Cb19_324_1 := baseC5 (w := w) (b := qe121) hb19_324 4 rfl
              have Cb19_324_2 := baseC5 (w := w) (b := qe91) hb19_324 7 rfl
              have K19_1 : KC w b19_324 19 #[excN nab] (.bool true) := Lib.hid fun W Q T => by
                exact (none_some W HNab.out HXab.out).mono fun e W' ⟨e1, e2⟩ => ⟨e1, T.later e2⟩
              have K19_5 : KC w b19_324 19 #[excN nbc] (.bool true) := Lib.hid fun W Q T => by
                exact (none_some W HNbc.out HXbc.out).mono fun e W' ⟨e1, e2⟩ => ⟨e1, T.later e2⟩
              have K19_10 : KC w b19_324 19 #[excN nac] (.bool true) := Lib.hid fun W Q T => by
                exact (none_some W HNac.out HXac.out).mono fun e W' ⟨e1, e2⟩ => ⟨e1, T.later e2⟩
              replace S := Lib.hid S
              clear hb19_324
              have S1 : Sep w ([] ++ b19_324) (wc) := by rw [Hb19_324.out]; exact S.out
              clear S
              refine regionL (E := []) (base := b19_324) S1 ?_
              clear S1
              refine quietLC Cb19_324_2 ?_
              simp only [Act.put, pa]; try dsimp only [List.set]
              refine quietLK K19_1 ?_
              simp only [Act.put, pa]; try dsimp only [List.set]
              iterate 2 (refine quietL ?_; simp only [Act.put, pa]; try dsimp only [List.set])
              refine quietLC Cb19_324_0 ?_
              simp only [Act.put, pa]; try dsimp only [List.set]
              refine quietLK K19_5 ?_
              simp only [Act.put, pa]; try dsimp only [List.set]
              iterate 3 (refine quietL ?_; simp only [Act.put, pa]; try dsimp only [List.set])
              refine quietLC Cb19_324_1 ?_
              simp only [Act.put, pa]; try dsimp only [List.set]
              refine quietLK K19_10 ?_
              simp only [Act.put, pa]; try dsimp only [List.set]
              iterate 12 (refine quietL ?_; simp only [Act.put, pa]; try dsimp only [List.set])
              refine doneL (h := fun w326 S => ?_)
              replace S : Sep w (boxW qv141 k1 n2 ⟨#[]⟩ :: boxN qe142 nab :: boxW qv131 k1 n1 ⟨#[]⟩ :: boxN qe132 nab :: boxN qe121 nac :: boxN qe111 nbc :: boxN qe101 nba :: boxN qe91 nab :: boxE qe81 :: boxV qvc1 c :: boxV qvb1 b :: boxV qva1 a :: heapR h H :: refR y H :: boxR q3 (.cells #[.int .i64 x0.kind, .int .i64 x0.n, .string x0.s, .int .i64 x1.kind, .int .i64 x1.n, .string x1.s, .int .i64 x2.kind, .int .i64 x2.n, .string x2.s] 54) :: []) w326 := by rw [Hb19_324.out] at S; exact S
              clear Hb19_324 Kb19_324 K19_1 K19_5 K19_10 Cb19_324_0 Cb19_324_1 Cb19_324_2
              replace S := Lib.hid S
              go_wp2_with fail
              go_meet
              exact ⟨rfl, S.out⟩
    case rest =>
      obtain ⟨rfl, S⟩ := hcut
      replace S := Lib.hid S.below
      go_wp2
      go_ret
      exact ⟨rfl, by rw [← HQ3.out]; exact S.out⟩
set_option maxRecDepth 100000 in
theorem lifted (os : Os) (started : os.Started) (H : Type) (enc : TypeId × Value → H) :
    ReturnsInHanded {} Tryz.checked os 7 .any (Rows.operateSameSpec.pre6 enc Tryz.prog Tryz.f7 Rows.operateSameRow.domain false) (Rows.operateSameSpec.post enc Tryz.prog Tryz.f7 false true false false) := by
  refine law_lift (C := Tryz.checked) own started (by kernel_rfl) Tryz.func7
    (ChangeSpec.witness6 (enc := enc) (C := Tryz.checked) false ⟨#[], #[.slice none 0 0, .agg #[.int .i64 0, .int .i64 0, .string ⟨#[]⟩, .int .i64 0, .int .i64 0, .string ⟨#[]⟩, .int .i64 0, .int .i64 0, .string ⟨#[]⟩]], []⟩ 8 (by kernel_rfl) (by kernel_rfl) (by kernel_rfl) (by kernel_rfl))
    (by kernel_rfl) (by kernel_rfl) rfl (fun ds h => by
      match ds, h with
      | [d1, d2], _ => exact ⟨rfl, rfl, rfl⟩) rfl Tryz.underlying4 ?_
  intro W base args ds ps hval hA hlt hwt hsh
  rw [Tryz.params7] at hA hval
  obtain ⟨v0, vs0, d0, ds0, p0, q0, hargs, rfl, rfl, h0, r0⟩ := trodAll_cons hA
  obtain ⟨v1, vs1, d1, ds1, p1, q1, rfl, rfl, rfl, h1, r1⟩ := trodAll_cons r0
  obtain ⟨rfl, rfl, rfl⟩ := trodAll_nil r1
  obtain rfl : args = #[v0, v1] := by cases args; simp_all
  obtain ⟨x0, len0, cap0, rfl⟩ := okWide_slice Tryz.underlying53 (hval 0 53 v0 rfl rfl)
  obtain ⟨fuel0, hf0⟩ := h0
  obtain ⟨l0, s0⟩ := open_objs (v := .slice x0 len0 cap0) hf0
  obtain ⟨cs1, rfl, hsz1⟩ := okWide_array Tryz.underlying54 (hval 1 54 v1 rfl rfl)
  obtain ⟨fuel1, hf1⟩ := h1
  obtain ⟨p1x, e1⟩ := trip_of_trod (cs := cs1.toList) hf1
  obtain rfl : cs1 = (tripC p1x).toArray := by rw [← e1]
  -- WALK
  exact walk W _ l0 s0 p1x.1 p1x.2.1 p1x.2.2
theorem proved : Rows.OperateSameSaid :=
  OpenClaim.holds_of_wide 7 Tryz.f7 rfl rfl rfl rfl rfl rfl rfl ⟨rfl, rfl, rfl, rfl, rfl⟩ rfl rfl rfl rfl rfl (by kernel_rfl) Tryz.func7 (by kernel_rfl)
    (of_decide_eq_true (by kernel_rfl)) (by unfold Func.isWrapper; first | (rw [if_pos (by decide +kernel)]; kernel_rfl) | (rw [if_neg (by decide +kernel)]; exact ⟨rfl, rfl⟩))
    (fun os started H enc _ => lifted os started H enc)
#print axioms proved
end Go.Proofs.YtellmfimmghidaaGreat.operateSame
