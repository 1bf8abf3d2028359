import Derived.Test.YtkocenlglodklaaMade14
import Derived.Test.YtkocenlglodklaaOpen
/- ch 14's classes as they come in. -/
namespace Go.Proofs.Ytkocenlglodklaa
set_option linter.unusedSimpArgs false
open Go.RowKit
set_option linter.unusedVariables false
/-- The law's Some. -/
def SomeIn (w : World) (sB sH : Value) : Prop :=
  ∃ (ba : Option Addr) (bc : Nat) (svs : List SlV) (rows : List (List Int)) (ha : Option Addr) (hc : Nat) (has : List Int), sB = .slice ba svs.length bc ∧ sH = .slice ha has.length hc ∧
    (∀ W', Below w.heap.size w W' → SeesR slCellN 1 W' (.slice ba svs.length bc) svs) ∧ RowsIn (fun W' => Below w.heap.size w W') svs rows ∧ ∀ W', Below w.heap.size w W' → SeesN W' (.slice ha has.length hc) has
theorem SomeIn.madeK {w W : World} {Rs : List Res} {sB sH : Value} (B : SomeIn w sB sH) (S : Sep w Rs W) :
    Calls Try.prog 12 #[.agg #[sB, sH]] W fun e W' => ∃ (h : Nat) (oa : Option Addr) (oc : Nat) (H : HeapM) (out : List V), e = .returned (.tuple #[.pointer (some ⟨h, 0, none⟩), .slice oa out.length oc]) ∧ MInv H out 12 ∧ H.NamesOnly ∧ Sep w (valsR (.slice oa out.length oc) out :: heapR h H :: Rs) W' := by
  obtain ⟨ba, bc, svs, rows, ha, hc, has, rfl, rfl, h1, h2, h3⟩ := B
  refine (classes_ok S ba bc svs rows ha hc has h1 h2 h3).mono fun e W' ⟨h, ov, H, out, e1, M, MK, S'⟩ => ?_
  obtain ⟨oa, oc, hov⟩ := (S'.row 0 rfl).form
  rw [hov] at e1 S'
  exact ⟨h, oa, oc, H, out, e1, M, MK, S'⟩
theorem SomeIn.made {w W : World} {Rs : List Res} {sB sH : Value} (B : SomeIn w sB sH) (S : Sep w Rs W) :
    Calls Try.prog 12 #[.agg #[sB, sH]] W fun e W' => ∃ (h : Nat) (oa : Option Addr) (oc : Nat) (H : HeapM) (out : List V), e = .returned (.tuple #[.pointer (some ⟨h, 0, none⟩), .slice oa out.length oc]) ∧ MInv H out 12 ∧ Sep w (valsR (.slice oa out.length oc) out :: heapR h H :: Rs) W' :=
  (B.madeK S).mono fun e W' ⟨h, oa, oc, H, out, e1, M, _, S'⟩ => ⟨h, oa, oc, H, out, e1, M, S'⟩
end Go.Proofs.Ytkocenlglodklaa
/- ch 14's classes as they come in: opened. -/
namespace Go.Proofs.Ytkocenlglodklaa
set_option linter.unusedSimpArgs false
open Go.ChangeShapes Go.WideShapes Go.ChangeAt Go.RowKit
set_option linter.unusedVariables false
section
variable {H : Type} {enc : TypeId × Value → H} {w : World} {base : Nat} {spare : Nat → Bool} {held : Bool}
set_option maxRecDepth 100000 in
theorem open_ints14 {fuel : Nat} {v : Value} {x : DataW H × List MemPlace} (h : DataW.trod enc Try.prog w base spare held fuel 23 [v] = some x) : ∃ l : List Int, SeesN w v l ∧ ∀ n ∈ l, okI n := by
  rcases Deep.open_slice Try.underlying23 h with ⟨h0, _⟩ | ⟨a, len, cap, m, n, D, Pl, hcs, hb, hl, hm, hmm, hx, hi⟩
  · simp only [List.cons.injEq, and_true] at h0
    subst h0
    exact ⟨[], ⟨none, 0, rfl, by simp, by simp, .inl rfl⟩, by simp⟩
  · simp only [List.cons.injEq, and_true] at hcs
    subst hcs
    have hlm : len ≤ m := by rw [hmm]; split <;> omega
    rw [cells1.1] at hi
    obtain ⟨f, hf⟩ : ∃ f : Nat → Int, ∀ i, i < len → w.cell? (a.add i) = some (.int .i64 (f i)) ∧ okI (f i) :=
      Deep.choose_lt (α := Int) (p := fun i n => w.cell? (a.add i) = some (.int .i64 n) ∧ okI n) (fun i hil => by
        obtain ⟨cs, h1, h2⟩ := hi i (by omega)
        obtain ⟨n, rfl, _, ho⟩ := DataW.trod_int Try.underlying3 h2
        obtain ⟨_, _, h3⟩ := World.cells?_some h1
        have := h3 0 (by omega)
        rw [Deep.add_add, Nat.mul_one, Nat.add_zero] at this
        exact ⟨n, this, ho⟩)
    have hlen : ((List.range len).map f).length = len := by simp
    obtain ⟨g, o, spot⟩ := a
    refine ⟨(List.range len).map f, ⟨some ⟨g, o, spot⟩, cap, by rw [hlen], by rw [hlen]; exact hl, hm, ?_⟩, fun n hn => ?_⟩
    · rcases Nat.eq_zero_or_pos len with h0 | h0
      · left; subst h0; rfl
      · right
        have hs : spot = none := by
          have h9 := (hf 0 h0).1
          simpa [Addr.add] using World.cell?_spot h9
        subst hs
        refine ⟨g, o, rfl, fun i v hv => ?_⟩
        have hil : i < len := by have := (List.getElem?_eq_some_iff.1 hv).1; rwa [hlen] at this
        have hv' : f i = v := by rw [List.getElem?_map, List.getElem?_range hil] at hv; exact Option.some.inj hv
        subst hv'
        have hadd : ∀ j, (⟨g, o, none⟩ : Addr).add j = ⟨g, o + j, none⟩ := fun j => by unfold Addr.add; split <;> simp_all
        have k0 := (hf i hil).1
        rw [hadd] at k0
        exact k0
    · obtain ⟨i, hi', rfl⟩ := List.mem_map.1 hn
      exact (hf i (List.mem_range.1 hi')).2
theorem cells14 : Try.prog.cellsOf 23 = 1 ∧ Try.prog.cellsOf 22 = 1 ∧ Try.prog.cellsOf 25 = 2 := ⟨by kernel_rfl, by kernel_rfl, by kernel_rfl⟩
theorem seesN_form {w : World} {v : Value} {l : List Int} (h : SeesN w v l) : ∃ p : SlV, v = p.val := by
  obtain ⟨a, c, e, _⟩ := h; exact ⟨(a, l.length, c), e⟩
set_option maxRecDepth 100000 in
theorem open_rows14 {fuel : Nat} {v : Value} {x : DataW H × List MemPlace} (h : DataW.trod enc Try.prog w base spare held fuel 22 [v] = some x) :
    ∃ (a : Option Addr) (c : Nat) (svs : List SlV) (rows : List (List Int)), v = .slice a svs.length c ∧ SeesR slCellN 1 w v svs ∧ svs.length = rows.length ∧ ∀ (i : Nat) (sv : SlV) (l : List Int), svs[i]? = some sv → rows[i]? = some l → SeesN w sv.val l := by
  rcases Deep.open_slice Try.underlying22 h with ⟨h0, _⟩ | ⟨a, len, cap, m, n, D, Pl, hcs, hb, hl, hm, hmm, hx, hi⟩
  · simp only [List.cons.injEq, and_true] at h0
    subst h0
    exact ⟨none, 0, [], [], rfl, ⟨none, 0, rfl, by simp, by simp, .inl rfl⟩, rfl, by simp⟩
  · simp only [List.cons.injEq, and_true] at hcs
    subst hcs
    have hlm : len ≤ m := by rw [hmm]; split <;> omega
    rw [cells14.1] at hi
    obtain ⟨f, hf⟩ : ∃ f : Nat → SlV × List Int, ∀ i, i < len → w.cell? (a.add i) = some (f i).1.val ∧ SeesN w (f i).1.val (f i).2 :=
      Deep.choose_lt (α := SlV × List Int) (p := fun i p => w.cell? (a.add i) = some p.1.val ∧ SeesN w p.1.val p.2) (fun i hil => by
        obtain ⟨cs, h1, h2⟩ := hi i (by omega)
        obtain ⟨_, h4, h3⟩ := World.cells?_some h1
        match cs, h4 with
        | [c0], _ =>
          obtain ⟨l, hl, _⟩ := open_ints14 h2
          obtain ⟨p, rfl⟩ := seesN_form hl
          have := h3 0 (by omega)
          rw [Deep.add_add, Nat.mul_one, Nat.add_zero] at this
          exact ⟨(p, l), this, hl⟩)
    have hlen : ((List.range len).map fun i => (f i).1).length = len := by simp
    obtain ⟨g, o, spot⟩ := a
    refine ⟨some ⟨g, o, spot⟩, cap, (List.range len).map fun i => (f i).1, (List.range len).map fun i => (f i).2, by rw [hlen], ⟨some ⟨g, o, spot⟩, cap, by rw [hlen], by rw [hlen]; exact hl, hm, ?_⟩, by simp, fun i sv l h1 h2 => ?_⟩
    · rcases Nat.eq_zero_or_pos len with h0 | h0
      · left; subst h0; rfl
      · right
        have hs : spot = none := by
          have h9 := (hf 0 h0).1
          simpa [Addr.add, SlV.val] using World.cell?_spot h9
        subst hs
        refine ⟨g, o, rfl, fun i v hv j u hu => ?_⟩
        have hil : i < len := by have := (List.getElem?_eq_some_iff.1 hv).1; rwa [hlen] at this
        have hv' : (f i).1 = v := by rw [List.getElem?_map, List.getElem?_range hil] at hv; exact Option.some.inj hv
        subst hv'
        have hadd : ∀ j, (⟨g, o, none⟩ : Addr).add j = ⟨g, o + j, none⟩ := fun j => by unfold Addr.add; split <;> simp_all
        have k0 := (hf i hil).1
        rw [hadd] at k0
        have hj : j = 0 := by have := (List.getElem?_eq_some_iff.1 hu).1; simp [slCellN] at this; omega
        subst hj
        have hu' : (f i).1.val = u := by simpa [slCellN, SlV.val] using hu
        rw [← hu', Nat.mul_one, Nat.add_zero]
        exact k0
    · have hil : i < len := by have := (List.getElem?_eq_some_iff.1 h1).1; rwa [hlen] at this
      have e1 : (f i).1 = sv := by rw [List.getElem?_map, List.getElem?_range hil] at h1; exact Option.some.inj h1
      have e2 : (f i).2 = l := by rw [List.getElem?_map, List.getElem?_range hil] at h2; exact Option.some.inj h2
      subst e1; subst e2
      exact (hf i hil).2
set_option maxRecDepth 100000 in
theorem open_some {n : Nat} {cs : List Value} {y : DataW H × List MemPlace} (h : DataW.trod enc Try.prog w base spare held n 25 cs = some y) : ∃ sB sH, cs = [sB, sH] ∧ SomeIn w sB sH := by
  obtain ⟨xs, n', _, hx, hlen, hxl, hf⟩ := DataW.trod_struct Try.underlying25 h
  rw [cells14.2.2] at hlen
  match cs, hlen with
  | [c0, c1], _ =>
    match xs, hxl with
    | [y0, y1], _ =>
      have h0 : DataW.trod enc Try.prog w base spare held n' 22 [c0] = some y0 := by have := hf 0 _ rfl; simpa [cells14] using this
      have h1 : DataW.trod enc Try.prog w base spare held n' 23 [c1] = some y1 := by have := hf 1 _ rfl; simpa [cells14] using this
      obtain ⟨a, c, svs, rows, rfl, s0, s1, s2⟩ := open_rows14 h0
      obtain ⟨l, t0, _⟩ := open_ints14 h1
      have t1 := t0
      obtain ⟨ha, hc, rfl, _⟩ := t1
      exact ⟨_, _, rfl, a, c, svs, rows, ha, hc, l, rfl, rfl, fun W' hW => s0.keep fun p v hp => cellBelow hp hW, ⟨s1, fun i sv l h1 h2 W' hW => (s2 i sv l h1 h2).keep fun p v hp => cellBelow hp hW⟩, fun W' hW => t0.keep fun p v hp => cellBelow hp hW⟩
end
end Go.Proofs.Ytkocenlglodklaa
