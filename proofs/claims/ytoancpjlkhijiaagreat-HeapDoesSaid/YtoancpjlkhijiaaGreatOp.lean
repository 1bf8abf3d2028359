/- kraitref12.Op: an operation as it comes in. -/
import Derived.Test.YtoancpjlkhijiaaGreatRow
namespace Go.Proofs.YtoancpjlkhijiaaGreat
set_option linter.unusedSimpArgs false
open Go.ChangeShapes Go.WideShapes Go.ChangeAt Go.RowKit
set_option linter.unusedVariables false
structure OpM where
  d : Int
  kd : Int
  i : Int
  j : Int
  name : ByteArray
  n : Int
  v : V
  k : V
  x : V
  a : Option Addr
  l : List V
  cap : Nat
  hd : okI d
  hkd : okI kd
  hi : okI i
  hj : okI j
  hn : okI n
  hs : name.size ≤ maxLen
def OpM.cells (o : OpM) : List Value := [.int .i64 o.d, .int .i64 o.kd, .int .i64 o.i, .int .i64 o.j, .string o.name, .int .i64 o.n, .int .i64 o.v.kind, .int .i64 o.v.n, .string o.v.s, .int .i64 o.k.kind, .int .i64 o.k.n, .string o.k.s, .int .i64 o.x.kind, .int .i64 o.x.n, .string o.x.s, .slice o.a o.l.length o.cap]
def OpM.val (o : OpM) : Value := .agg #[.int .i64 o.d, .int .i64 o.kd, .int .i64 o.i, .int .i64 o.j, .string o.name, .int .i64 o.n, .int .i64 o.v.kind, .int .i64 o.v.n, .string o.v.s, .int .i64 o.k.kind, .int .i64 o.k.n, .string o.k.s, .int .i64 o.x.kind, .int .i64 o.x.n, .string o.x.s, .slice o.a o.l.length o.cap]
def OpM.sl (o : OpM) : Value := .slice o.a o.l.length o.cap
/-- What the operation holds, as the world has it. -/
def OpM.In (o : OpM) (w : World) : Prop := SeesV w o.sl o.l ∧ Arg w [] o.sl
def OpM.obj (o : OpM) : Obj := .cells #[.int .i64 o.d, .int .i64 o.kd, .int .i64 o.i, .int .i64 o.j, .string o.name, .int .i64 o.n, .int .i64 o.v.kind, .int .i64 o.v.n, .string o.v.s, .int .i64 o.k.kind, .int .i64 o.k.n, .string o.k.s, .int .i64 o.x.kind, .int .i64 o.x.n, .string o.x.s, .slice o.a o.l.length o.cap] 36
theorem opBlk {o : OpM} {w : World} {b : Nat} (h : w.heap[b]? = some o.obj) :
    (w.cell? ⟨b, 0, none⟩ = some (.int .i64 o.d) ∧ w.cell? ⟨b, 1, none⟩ = some (.int .i64 o.kd) ∧ w.cell? ⟨b, 2, none⟩ = some (.int .i64 o.i) ∧ w.cell? ⟨b, 3, none⟩ = some (.int .i64 o.j) ∧ w.cell? ⟨b, 4, none⟩ = some (.string o.name) ∧ w.cell? ⟨b, 5, none⟩ = some (.int .i64 o.n)) ∧
    (w.cell? ⟨b, 6, none⟩ = some (.int .i64 o.v.kind) ∧ w.cell? ⟨b, 7, none⟩ = some (.int .i64 o.v.n) ∧ w.cell? ⟨b, 8, none⟩ = some (.string o.v.s)) ∧
    (w.cell? ⟨b, 9, none⟩ = some (.int .i64 o.k.kind) ∧ w.cell? ⟨b, 10, none⟩ = some (.int .i64 o.k.n) ∧ w.cell? ⟨b, 11, none⟩ = some (.string o.k.s)) ∧
    (w.cell? ⟨b, 12, none⟩ = some (.int .i64 o.x.kind) ∧ w.cell? ⟨b, 13, none⟩ = some (.int .i64 o.x.n) ∧ w.cell? ⟨b, 14, none⟩ = some (.string o.x.s)) ∧
    w.cell? ⟨b, 15, none⟩ = some (.slice o.a o.l.length o.cap) :=
  ⟨⟨cellAt h 0 rfl, cellAt h 1 rfl, cellAt h 2 rfl, cellAt h 3 rfl, cellAt h 4 rfl, cellAt h 5 rfl⟩, ⟨cellAt h 6 rfl, cellAt h 7 rfl, cellAt h 8 rfl⟩, ⟨cellAt h 9 rfl, cellAt h 10 rfl, cellAt h 11 rfl⟩, ⟨cellAt h 12 rfl, cellAt h 13 rfl, cellAt h 14 rfl⟩, cellAt h 15 rfl⟩
section
variable {H : Type} {enc : TypeId × Value → H} {w : World} {base : Nat} {spare : Nat → Bool} {held : Bool}
theorem opCells : Tryz.prog.cellsOf 36 = 16 ∧ Tryz.prog.cellsOf 34 = 1 := ⟨by kernel_rfl, by kernel_rfl⟩
set_option maxRecDepth 100000 in
theorem op_of_trod {n : Nat} {cs : List Value} {y : DataW H × List MemPlace} (h : DataW.trod enc Tryz.prog w base spare held n 36 cs = some y) : ∃ o : OpM, cs = o.cells ∧ o.In w ∧ ((∀ m ∈ y.1.weights Tryz.prog 36, m ≤ reachBytes) → o.l.length ≤ 8796093022208) := by
  obtain ⟨xs, n', _, hx, hlen, hxl, hf⟩ := DataW.trod_struct Tryz.underlying36 h
  rw [opCells.1] at hlen
  match cs, hlen with
  | [c0, c1, c2, c3, c4, c5, c6, c7, c8, c9, c10, c11, c12, c13, c14, c15], _ =>
    match xs, hxl with
    | [y0, y1, y2, y3, y4, y5, y6, y7, y8, y9], _ =>
      have h0 : DataW.trod enc Tryz.prog w base spare held n' 3 [c0] = some y0 := by have := hf 0 _ rfl; simpa [cells1, opCells] using this
      have h1 : DataW.trod enc Tryz.prog w base spare held n' 3 [c1] = some y1 := by have := hf 1 _ rfl; simpa [cells1, opCells] using this
      have h2 : DataW.trod enc Tryz.prog w base spare held n' 3 [c2] = some y2 := by have := hf 2 _ rfl; simpa [cells1, opCells] using this
      have h3 : DataW.trod enc Tryz.prog w base spare held n' 3 [c3] = some y3 := by have := hf 3 _ rfl; simpa [cells1, opCells] using this
      have h4 : DataW.trod enc Tryz.prog w base spare held n' 9 [c4] = some y4 := by have := hf 4 _ rfl; simpa [cells1, opCells] using this
      have h5 : DataW.trod enc Tryz.prog w base spare held n' 2 [c5] = some y5 := by have := hf 5 _ rfl; simpa [cells1, opCells] using this
      have h6 : DataW.trod enc Tryz.prog w base spare held n' 31 [c6, c7, c8] = some y6 := by have := hf 6 _ rfl; simpa [cells1, opCells] using this
      have h7 : DataW.trod enc Tryz.prog w base spare held n' 31 [c9, c10, c11] = some y7 := by have := hf 7 _ rfl; simpa [cells1, opCells] using this
      have h8 : DataW.trod enc Tryz.prog w base spare held n' 31 [c12, c13, c14] = some y8 := by have := hf 8 _ rfl; simpa [cells1, opCells] using this
      have h9 : DataW.trod enc Tryz.prog w base spare held n' 34 [c15] = some y9 := by have := hf 9 _ rfl; simpa [cells1, opCells] using this
      obtain ⟨d, e0, _, hd⟩ := DataW.trod_int Tryz.underlying3 h0
      obtain ⟨kd, e1, _, hkd⟩ := DataW.trod_int Tryz.underlying3 h1
      obtain ⟨i, e2, _, hi⟩ := DataW.trod_int Tryz.underlying3 h2
      obtain ⟨j, e3, _, hj⟩ := DataW.trod_int Tryz.underlying3 h3
      obtain ⟨s, e4, _, hs⟩ := DataW.trod_string Tryz.underlying9 h4
      obtain ⟨m, e5, _, hm⟩ := DataW.trod_int Tryz.underlying2 h5
      obtain ⟨v, e6⟩ := val_of_trod h6
      obtain ⟨k, e7⟩ := val_of_trod h7
      obtain ⟨x, e8⟩ := val_of_trod h8
      obtain ⟨l, s9, g9⟩ := open_vals h9
      simp only [V.cells, List.cons.injEq, and_true] at e0 e1 e2 e3 e4 e5 e6 e7 e8
      obtain ⟨e6, e61, e62⟩ := e6
      obtain ⟨e7, e71, e72⟩ := e7
      obtain ⟨e8, e81, e82⟩ := e8
      have s9' := s9
      obtain ⟨a, cap, e9, _⟩ := s9
      subst e0; subst e1; subst e2; subst e3; subst e4; subst e5; subst e6; subst e61; subst e62; subst e7; subst e71; subst e72; subst e8; subst e81; subst e82; subst e9
      refine ⟨⟨d, kd, i, j, s, m, v, k, x, a, l, cap, hd, hkd, hi, hj, hm, hs⟩, rfl, ⟨s9', g9⟩, fun hw => ?_⟩
      rcases Deep.open_slice Tryz.underlying34 h9 with ⟨h0, _⟩ | ⟨a', len, cap', mm, nn, D, Pl, hcs, hb, hl, hm', hmm, hy, hi'⟩
      · simp at h0; simp [h0]
      · simp only [List.cons.injEq, and_true, Value.slice.injEq] at hcs
        have h32 : Tryz.prog.bytesOf 31 = 32 := by kernel_rfl
        have := hw ((len + (mm - len)) * Tryz.prog.bytesOf 31) (by
          rw [hx]
          simp only [DataW.weights, Tryz.underlying36, List.map]
          refine DataW.weights_mem_each (j := 9) (t := 34) (d := y9.1) rfl rfl _ ?_
          rw [hy]
          simp [DataW.weights, Tryz.underlying34])
        rw [h32] at this
        have h47 := reachBytes_lt
        show l.length ≤ _
        omega
end
end Go.Proofs.YtoancpjlkhijiaaGreat
