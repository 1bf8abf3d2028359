/- A row of operations that came in; Big. -/
import Derived.Test.YtoancpjlkhijiaaGreatDoA
namespace Go.Proofs.YtoancpjlkhijiaaGreat
set_option linter.unusedSimpArgs false
open Go.ChangeShapes Go.WideShapes Go.ChangeAt Go.RowKit
set_option linter.unusedVariables false
/-- The slice s shows the operations l. -/
def SeesO (w : World) (s : Value) (l : List OpM) : Prop :=
  ∃ a cap, s = .slice a l.length cap ∧ l.length ≤ cap ∧ cap ≤ maxLen ∧ (l = [] ∨ ∃ g o, a = some ⟨g, o, none⟩ ∧ ∀ i x, l[i]? = some x → ∀ j u, x.cells[j]? = some u → w.cell? ⟨g, o + i * 16 + j, none⟩ = some u) ∧ ∀ x ∈ l, x.In w
def zeroOp : OpM := ⟨0, 0, 0, 0, ⟨#[]⟩, 0, V.zero, V.zero, V.zero, none, [], 0, by decide, by decide, by decide, by decide, by decide, by decide⟩
instance : Inhabited OpM := ⟨zeroOp⟩
/-- What some operations may lay, at most. -/
def opsW (l : List OpM) : Nat := (l.map fun x => x.l.length + 2).sum
theorem opsW_snoc (l : List OpM) (x : OpM) : opsW (l ++ [x]) = opsW l + (x.l.length + 2) := by simp [opsW]
theorem opsW_cons (l : List OpM) (x : OpM) : opsW (x :: l) = (x.l.length + 2) + opsW l := by simp [opsW]
theorem opsW_take {l : List OpM} {k : Nat} {x : OpM} (hx : l[k]? = some x) : opsW (l.take k) + (x.l.length + 2) ≤ opsW l := by
  have h : l = (l.take k ++ [x]) ++ l.drop (k + 1) := by
    have := List.take_append_drop (k + 1) l
    rw [List.take_add_one, hx] at this; exact this.symm
  have e : opsW l = opsW (l.take k ++ [x]) + opsW (l.drop (k + 1)) := by
    conv => lhs; rw [h]
    simp [opsW]; omega
  rw [e, opsW_snoc]; omega
theorem opsW_len (l : List OpM) : 2 * l.length ≤ opsW l := by
  induction l with
  | nil => simp [opsW]
  | cons x r ih => rw [opsW_cons, List.length_cons]; omega
section
variable {H : Type} {enc : TypeId × Value → H} {w : World} {base : Nat} {spare : Nat → Bool} {held : Bool}
theorem bulk_pos (d : DataW H) : 1 ≤ Rows.uptoBulk d := by
  cases d with
  | lit b => cases b <;> simp [Rows.uptoBulk]
  | _ => simp [Rows.uptoBulk]
theorem bulkAll_len (l : List (DataW H)) : l.length ≤ Rows.uptoBulkAll l := by
  induction l with
  | nil => simp [Rows.uptoBulkAll]
  | cons d r ih => simp only [Rows.uptoBulkAll, List.length_cons]; have := bulk_pos d; omega
set_option maxRecDepth 100000 in
theorem op_bulk {n : Nat} {cs : List Value} {y : DataW H × List MemPlace} {o : OpM} (h : DataW.trod enc Tryz.prog w base spare held n 36 cs = some y) (e : cs = o.cells) : o.l.length + 2 ≤ Rows.uptoBulk y.1 := by
  subst e
  obtain ⟨xs, n', _, hx, hlen, hxl, hf⟩ := DataW.trod_struct Tryz.underlying36 h
  match xs, hxl with
  | [y0, y1, y2, y3, y4, y5, y6, y7, y8, y9], _ =>
    have h9 : DataW.trod enc Tryz.prog w base spare held n' 34 [.slice o.a o.l.length o.cap] = some y9 := by have := hf 9 _ rfl; simpa [cells1, opCells, OpM.cells] using this
    have hb : o.l.length + 1 ≤ Rows.uptoBulk y9.1 := by
      rcases Deep.open_slice Tryz.underlying34 h9 with ⟨h0, h1⟩ | ⟨a', len, cap', mm, nn, D, Pl, hcs, hb, hl, hm', hmm, hy, hi'⟩
      · simp only [List.cons.injEq, and_true, Value.slice.injEq] at h0
        rw [h0.2.1, h1]; simp [Rows.uptoBulk]
      · simp only [List.cons.injEq, and_true, Value.slice.injEq] at hcs
        rw [hy, hcs.2.1]
        simp only [Rows.uptoBulk]
        have := bulkAll_len ((List.range len).map D)
        simp at this
        omega
    rw [hx]
    simp only [List.map, Rows.uptoBulk, Rows.uptoBulkAll]
    omega
theorem opsW_bulk {f : Nat → OpM} {D : Nat → DataW H} : ∀ (n : Nat), (∀ i, i < n → (f i).l.length + 2 ≤ Rows.uptoBulk (D i)) → opsW ((List.range n).map f) ≤ Rows.uptoBulkAll ((List.range n).map D)
  | 0, _ => by simp [opsW, Rows.uptoBulkAll]
  | n + 1, h => by
    have ih := opsW_bulk n fun i hi => h i (by omega)
    have ha : ∀ l : List (DataW H), ∀ d, Rows.uptoBulkAll (l ++ [d]) = Rows.uptoBulkAll l + Rows.uptoBulk d := fun l d => by
      induction l with
      | nil => simp [Rows.uptoBulkAll]
      | cons x r ih => simp only [List.cons_append, Rows.uptoBulkAll, ih]; omega
    rw [List.range_succ, List.map_append, List.map_append, List.map_singleton, List.map_singleton, opsW_snoc, ha]
    have := h n (by omega)
    omega
theorem open_ops {fuel : Nat} {v : Value} {x : DataW H × List MemPlace} (h : DataW.trod enc Tryz.prog w base spare held fuel 22 [v] = some x) : ∃ l : List OpM, SeesO w v l ∧ opsW l ≤ Rows.uptoBulk x.1 := by
  rcases Deep.open_slice Tryz.underlying22 h with ⟨h0, _⟩ | ⟨a, len, cap, m, n, D, Pl, hcs, hb, hl, hm, hmm, hx, hi⟩
  · simp only [List.cons.injEq, and_true] at h0
    subst h0
    exact ⟨[], ⟨none, 0, rfl, by simp, by simp, .inl rfl, by simp⟩, by simp [opsW]⟩
  · simp only [List.cons.injEq, and_true] at hcs
    subst hcs
    have hlm : len ≤ m := by rw [hmm]; split <;> omega
    rw [opCells.1] at hi
    obtain ⟨f, hf⟩ : ∃ f : Nat → OpM, ∀ i, i < len → (∀ j, j < 16 → w.cell? (a.add (i * 16 + j)) = (f i).cells[j]?) ∧ (f i).In w ∧ (f i).l.length + 2 ≤ Rows.uptoBulk (D i) :=
      Deep.choose_lt (α := OpM) (p := fun i v => (∀ j, j < 16 → w.cell? (a.add (i * 16 + j)) = v.cells[j]?) ∧ v.In w ∧ v.l.length + 2 ≤ Rows.uptoBulk (D i)) (fun i hil => by
        obtain ⟨cs, h1, h2⟩ := hi i (by omega)
        obtain ⟨v, e, h4, _⟩ := op_of_trod h2
        have hbk := op_bulk h2 e
        subst e
        obtain ⟨_, _, h3⟩ := World.cells?_some h1
        exact ⟨v, fun j hj => by rw [← Deep.add_add]; exact h3 j hj, h4, hbk⟩)
    have hlen : ((List.range len).map f).length = len := by simp
    obtain ⟨g, o, spot⟩ := a
    refine ⟨(List.range len).map f, ⟨some ⟨g, o, spot⟩, cap, by rw [hlen], by rw [hlen]; exact hl, hm, ?_, fun x hx => ?_⟩, ?_⟩
    · rcases Nat.eq_zero_or_pos len with h0 | h0
      · left; subst h0; rfl
      · right
        have hs : spot = none := by
          have := (hf 0 h0).1 0 (by omega)
          have h9 : w.cell? (Addr.add ⟨g, o, spot⟩ 0) = some (.int .i64 (f 0).d) := by simpa [OpM.cells] using this
          simpa [Addr.add] using World.cell?_spot h9
        subst hs
        refine ⟨g, o, rfl, fun i v hv j u hu => ?_⟩
        have hil : i < len := by have := (List.getElem?_eq_some_iff.1 hv).1; rwa [hlen] at this
        have hv' : f i = v := by rw [List.getElem?_map, List.getElem?_range hil] at hv; exact Option.some.inj hv
        subst hv'
        have hadd : ∀ j, (⟨g, o, none⟩ : Addr).add j = ⟨g, o + j, none⟩ := fun j => by unfold Addr.add; split <;> simp_all
        have hj : j < 16 := by have := (List.getElem?_eq_some_iff.1 hu).1; simpa [OpM.cells] using this
        have k0 := (hf i hil).1 j hj
        rw [hadd, ← Nat.add_assoc, hu] at k0
        exact k0
    · obtain ⟨i, hi', rfl⟩ := List.mem_map.1 hx
      exact (hf i (List.mem_range.1 hi')).2.1
    · have := opsW_bulk len fun i hi => (hf i hi).2.2
      rw [hx]; simp only [Rows.uptoBulk]; omega
end
def bigM (l : List OpM) : Bool := decide (60 < l.length) || l.any fun x => decide (60 < x.l.length)
set_option maxRecDepth 100000 in
theorem big_ok (w : World) (s : Value) (l : List OpM) (hs : SeesO w s l) :
    Calls Tryz.prog 4 #[s] w fun e w' => e = .returned (.bool (bigM l)) ∧ ∃ n, w' = w.drewN n := by
  obtain ⟨a, ac, rfl, a1, a2, a3, a4⟩ := hs
  have hl : (l.length : Int) ≤ 9223372036854775807 := by unfold maxLen at a2; omega
  have HA := Lib.hid a3
  clear a1 a2 a3 a4
  go_enter Tryz.func4, Tryz.ntmps4
  go_wp2
  go_loopw [3] (fun i wr => ∃ k : Nat, k ≤ l.length ∧ i = .int .i64 k ∧ (∀ x ∈ l.take k, x.l.length ≤ 60) ∧ ∃ n, wr = w.drewN n) (fun i _ => l.length - (intOf i).toNat)
  case atStart => exact ⟨0, by omega, rfl, by simp, 0, rfl⟩
  case round =>
    obtain ⟨k, hk, rfl, hsm, nd, rfl⟩ := hrel
    by_cases h60 : l.length ≤ 60
    · have h60' : (l.length : Int) ≤ 60 := by omega
      by_cases hlt : k < l.length
      · obtain ⟨x, hx⟩ : ∃ x, l[k]? = some x := ⟨l[k], by simp [hlt]⟩
        obtain ⟨g, o, rfl, hc⟩ : ∃ g o, a = some ⟨g, o, none⟩ ∧ ∀ i x, l[i]? = some x → ∀ j u, x.cells[j]? = some u → w.cell? ⟨g, o + i * 16 + j, none⟩ = some u := by
          rcases HA.out with h | h
          · subst h; simp at hlt
          · exact h
        have c15 : (w.drewN nd).cell? ⟨g, o + k * 16 + 15, none⟩ = some (.slice x.a x.l.length x.cap) := hc k x hx 15 _ rfl
        have hil : (k : Int) < l.length := by omega
        obtain ⟨wx, hwx⟩ : ∃ wx, w.drewN nd = wx := ⟨_, rfl⟩
        rw [hwx] at c15 ⊢
        have HWX := Lib.hid hwx
        by_cases hb : 60 < x.l.length
        · have hb' : (60 : Int) < x.l.length := by omega
          have HB := Lib.hid (show bigM l = true by
            have : (l.any fun x => decide (60 < x.l.length)) = true := List.any_eq_true.2 ⟨x, List.mem_of_getElem? hx, by simpa using hb⟩
            simp [bigM, this])
          clear hx hc hlt hsm hwx h60 hb
          go_wp2
          go_ret
          rw [HB.out]
          first | exact ⟨rfl, _, HWX.out.symm⟩ | exact ⟨rfl, _, by rw [← HWX.out, World.drewN_drewN]⟩
        · have hb' : (x.l.length : Int) ≤ 60 := by omega
          have HS : Hid (∀ y ∈ l.take (k + 1), y.l.length ≤ 60) := Lib.hid (by
            rw [List.take_add_one, hx]
            intro y hy
            rcases List.mem_append.1 hy with h | h
            · exact hsm y h
            · simp at h; subst h; omega)
          have HL := Lib.hid hlt
          clear hx hc hlt hsm hwx h60 hb
          go_wp2
          refine ⟨⟨k + 1, by have := HL.out; omega, by go_num, HS.out, nd, HWX.out.symm⟩, by have := HL.out; simp [intOf]; omega⟩
      · obtain rfl : k = l.length := by omega
        have HB := Lib.hid (show bigM l = decide ((60 : Int) < l.length) by
          rw [List.take_length] at hsm
          have : (l.any fun x => decide (60 < x.l.length)) = false := by rw [List.any_eq_false]; intro x hx; simpa using hsm x hx
          rw [bigM, this, decide_eq_false (by omega), decide_eq_false (by omega)]; rfl)
        clear hlt hsm h60
        go_wp2
        go_ret
        rw [HB.out]
        exact ⟨rfl, _, rfl⟩
    · have h60' : (60 : Int) < l.length := by omega
      have HB := Lib.hid (show bigM l = true by simp [bigM]; left; omega)
      have hik : (k : Int) ≤ l.length := by omega
      clear h60 hsm
      by_cases hlt : k < l.length
      · have hil : (k : Int) < l.length := by omega
        clear hlt hk
        go_wp2
        go_ret
        rw [HB.out]
        exact ⟨rfl, _, rfl⟩
      · obtain rfl : k = l.length := by omega
        clear hlt hk
        go_wp2
        go_ret
        rw [HB.out]
        exact ⟨rfl, _, rfl⟩
end Go.Proofs.YtoancpjlkhijiaaGreat
