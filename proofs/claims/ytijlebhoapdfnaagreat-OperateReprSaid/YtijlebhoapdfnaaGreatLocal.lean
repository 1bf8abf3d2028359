/- What a law does beside the heap: rows of values. -/
import Derived.Test.YtijlebhoapdfnaaGreatHeapC
import Derived.Lib.AppendZeros
import Derived.Test.YtijlebhoapdfnaaGreatKeptA
import Derived.Test.YtijlebhoapdfnaaGreatFrame
import Derived.Deep.Slices
/- A law's arguments: rows of values, values. -/
set_option maxRecDepth 100000
namespace Go.Proofs.YtijlebhoapdfnaaGreat
set_option linter.unusedSimpArgs false
open Go.ChangeShapes Go.WideShapes Go.ChangeAt Go.RowKit
set_option linter.unusedVariables false
section
variable {H : Type} {enc : TypeId × Value → H} {w : World} {base : Nat} {spare : Nat → Bool} {held : Bool}
theorem cells1 : Tryz.prog.cellsOf 3 = 1 ∧ Tryz.prog.cellsOf 2 = 1 ∧ Tryz.prog.cellsOf 9 = 1 ∧ Tryz.prog.cellsOf 24 = 3 := ⟨by kernel_rfl, by kernel_rfl, by kernel_rfl, by kernel_rfl⟩
instance : Inhabited V := ⟨V.zero⟩
theorem val_of_trod {n : Nat} {cs : List Value} {y : DataW H × List MemPlace} (h : DataW.trod enc Tryz.prog w base spare held n 24 cs = some y) : ∃ v : V, cs = v.cells := by
 obtain ⟨xs, n', _, hx, hlen, hxl, hf⟩ := DataW.trod_struct Tryz.underlying24 h
 rw [cells1.2.2.2] at hlen
 match cs, hlen with
 | [c0, c1, c2], _ =>
  match xs, hxl with
  | [y0, y1, y2], _ =>
   have h0 : DataW.trod enc Tryz.prog w base spare held n' 3 [c0] = some y0 := by have := hf 0 _ rfl; simpa [cells1.1] using this
   have h1 : DataW.trod enc Tryz.prog w base spare held n' 2 [c1] = some y1 := by have := hf 1 _ rfl; simpa [cells1.2.1] using this
   have h2 : DataW.trod enc Tryz.prog w base spare held n' 9 [c2] = some y2 := by have := hf 2 _ rfl; simpa [cells1.2.2.1] using this
   obtain ⟨k, e0, _, hk⟩ := DataW.trod_int Tryz.underlying3 h0
   obtain ⟨m, e1, _, hm⟩ := DataW.trod_int Tryz.underlying2 h1
   obtain ⟨s, e2, _, hs⟩ := DataW.trod_string Tryz.underlying9 h2
   simp only [List.cons.injEq, and_true] at e0 e1 e2
   exact ⟨⟨k, m, s, hk, hm, hs⟩, by rw [e0, e1, e2]; rfl⟩
/-- A row of values that came in. -/
theorem open_vals {fuel : Nat} {v : Value} {x : DataW H × List MemPlace} (h : DataW.trod enc Tryz.prog w base spare held fuel 56 [v] = some x) : ∃ l : List V, SeesV w v l ∧ Arg w [] v := by
 rcases Deep.open_slice Tryz.underlying56 h with ⟨h0, _⟩ | ⟨a, len, cap, m, n, D, Pl, hcs, hb, hl, hm, hmm, hx, hi⟩
 ·
  simp only [List.cons.injEq, and_true] at h0
  subst h0
  exact ⟨[], ⟨none, 0, rfl, by simp, by simp, .inl rfl⟩, fun g o n c e => by cases e⟩
 ·
  simp only [List.cons.injEq, and_true] at hcs
  subst hcs
  have hlm : len ≤ m := by rw [hmm]; split <;> omega
  rw [cells1.2.2.2] at hi
  obtain ⟨f, hf⟩ : ∃ f : Nat → V, ∀ i, i < len → ∀ j, j < 3 → w.cell? (a.add (i * 3 + j)) = (f i).cells[j]? :=
   Deep.choose_lt (α := V) (p := fun i v => ∀ j, j < 3 → w.cell? (a.add (i * 3 + j)) = v.cells[j]?) (fun i hil => by
    obtain ⟨cs, h1, h2⟩ := hi i (by omega)
    obtain ⟨v, rfl⟩ := val_of_trod h2
    obtain ⟨_, _, h3⟩ := World.cells?_some h1
    exact ⟨v, fun j hj => by rw [← Deep.add_add]; exact h3 j hj⟩)
  have hlen : ((List.range len).map f).length = len := by simp
  obtain ⟨g, o, spot⟩ := a
  refine ⟨(List.range len).map f, ⟨some ⟨g, o, spot⟩, cap, by rw [hlen], by rw [hlen]; exact hl, hm, ?_⟩, fun g' o' n' c' e h0 => ?_⟩
  ·
   rcases Nat.eq_zero_or_pos len with h0 | h0
   ·
    left; subst h0; rfl
   ·
    right
    have hs : spot = none := by
     have := hf 0 h0 0 (by omega)
     have h9 : w.cell? (Addr.add ⟨g, o, spot⟩ 0) = some (.int .i64 (f 0).kind) := by simpa [V.cells] using this
     simpa [Addr.add] using World.cell?_spot h9
    subst hs
    refine ⟨g, o, rfl, fun i v hv => ?_⟩
    have hil : i < len := by have := (List.getElem?_eq_some_iff.1 hv).1; rwa [hlen] at this
    have hv' : f i = v := by rw [List.getElem?_map, List.getElem?_range hil] at hv; exact Option.some.inj hv
    subst hv'
    have hadd : ∀ j, (⟨g, o, none⟩ : Addr).add j = ⟨g, o + j, none⟩ := fun j => by unfold Addr.add; split <;> simp_all
    have k0 := hf i hil 0 (by omega)
    have k1 := hf i hil 1 (by omega)
    have k2 := hf i hil 2 (by omega)
    rw [hadd] at k0 k1 k2
    exact ⟨k0, k1, k2⟩
  ·
   cases e
   have := hf 0 h0 0 (by omega)
   have h9 : w.cell? (Addr.add ⟨g, o, none⟩ 0) = some (.int .i64 (f 0).kind) := by simpa [V.cells] using this
   exact .inl (by simpa [Addr.add] using World.block_lt_of_cell? w _ h9)
end
end Go.Proofs.YtijlebhoapdfnaaGreat
set_option maxRecDepth 100000
set_option maxHeartbeats 1600000
namespace Go.Proofs.YtijlebhoapdfnaaGreat
set_option linter.unusedSimpArgs false
open Go.RowKit
set_option linter.unusedVariables false
theorem V.eq_iff (x y : V) : x = y ↔ (x.kind = y.kind ∧ x.n = y.n ∧ x.s.toList = y.s.toList) := by
 constructor
 ·
  intro h; subst h; exact ⟨rfl, rfl, rfl⟩
 ·
  rintro ⟨h1, h2, h3⟩
  obtain ⟨a, b, c, _, _, _⟩ := x
  obtain ⟨a', b', c', _, _, _⟩ := y
  simp only at h1 h2 h3
  subst h1; subst h2
  have : c = c' := by
   rw [ByteArray.toList_eq, ByteArray.toList_eq] at h3
   cases c; cases c'
   simp only [ByteArray.mk.injEq]
   exact Array.toList_inj.1 h3
  subst this; rfl
theorem neq_vals (W : World) (x y : V) (b : Bool) (hb : (!decide (x = y)) = b) : (binOp .neq 24 (.agg #[.int .i64 x.kind, .int .i64 x.n, .string x.s]) (.agg #[.int .i64 y.kind, .int .i64 y.n, .string y.s])).run Tryz.prog W = .ok (.bool b) W := by
 go_simp
 have hx := V.eq_iff x y
 subst hb
 by_cases h1 : x.kind = y.kind
 ·
  by_cases h2 : x.n = y.n
  ·
   by_cases h3 : x.s.toList = y.s.toList
   ·
    simp [h1, h2, h3, hx]
   ·
    simp [h1, h2, h3, hx]
  ·
   simp [h1, h2, hx]
 ·
  simp [h1, hx]
def SameRelV (w : World) (l m : List V) (k : Nat) (wr : World) : Prop := l.take k = m.take k ∧ ∃ n, wr = w.drewN n
theorem SameRelV.later {w wr : World} {l m : List V} {k : Nat} (h : SameRelV w l m k wr) (n : Nat) : SameRelV w l m k (wr.drewN n) := by
 obtain ⟨h1, j, rfl⟩ := h; exact ⟨h1, _, World.drewN_drewN w j n⟩
/-- Two rows of values: are they the same? -/
theorem same_vals (w : World) (s t : Value) (l m : List V) (hs : SeesV w s l) (ht : SeesV w t m) :
  Calls Tryz.prog 77 #[s, t] w fun e w' => e = .returned (.bool (decide (l = m))) ∧ ∃ n, w' = w.drewN n := by
 obtain ⟨a, ac, rfl, a1, a2, a3⟩ := hs
 obtain ⟨b, bc, rfl, b1, b2, b3⟩ := ht
 have ha : (l.length : Int) ≤ 9223372036854775807 := by unfold maxLen at a2; omega
 have hb : (m.length : Int) ≤ 9223372036854775807 := by unfold maxLen at b2; omega
 have HA := Lib.hid a3
 have HB := Lib.hid b3
 clear a1 a2 a3 b1 b2 b3
 by_cases hlen : l.length = m.length
 ·
  have hne : (((l.length : Int)) != (m.length : Int)) = false := by simp [hlen]
  have HL := Lib.hid hlen
  clear hlen
  go_enter Tryz.func77, Tryz.ntmps77
  go_wp2
  go_loopw [5] (fun i wr => ∃ k : Nat, k ≤ l.length ∧ i = .int .i64 k ∧ SameRelV w l m k wr) (fun i _ => l.length - (intOf i).toNat)
  case atStart => exact ⟨0, by omega, rfl, by simp, 0, rfl⟩
  case round =>
   obtain ⟨k, hk, rfl, hkm, nd, rfl⟩ := hrel
   by_cases hlt : k < l.length
   ·
    obtain ⟨x, hx⟩ : ∃ x, l[k]? = some x := ⟨l[k], by simp [hlt]⟩
    obtain ⟨y, hy⟩ : ∃ y, m[k]? = some y := ⟨m[k]'(by have := HL.out; omega), by simp⟩
    obtain ⟨g, o, rfl, hc⟩ : ∃ g o, a = some ⟨g, o, none⟩ ∧ ∀ i v, l[i]? = some v → w.cell? ⟨g, o + i * 3, none⟩ = some (.int .i64 v.kind) ∧ w.cell? ⟨g, o + i * 3 + 1, none⟩ = some (.int .i64 v.n) ∧ w.cell? ⟨g, o + i * 3 + 2, none⟩ = some (.string v.s) := by
     rcases HA.out with h | h
     ·
      subst h; simp at hlt
     ·
      exact h
    obtain ⟨g', o', rfl, hc'⟩ : ∃ g o, b = some ⟨g, o, none⟩ ∧ ∀ i v, m[i]? = some v → w.cell? ⟨g, o + i * 3, none⟩ = some (.int .i64 v.kind) ∧ w.cell? ⟨g, o + i * 3 + 1, none⟩ = some (.int .i64 v.n) ∧ w.cell? ⟨g, o + i * 3 + 2, none⟩ = some (.string v.s) := by
     rcases HB.out with h | h
     ·
      subst h; simp at hy
     ·
      exact h
    obtain ⟨c10, c11, c12⟩ : (w.drewN nd).cell? ⟨g, o + k * 3, none⟩ = some (.int .i64 x.kind) ∧ (w.drewN nd).cell? ⟨g, o + k * 3 + 1, none⟩ = some (.int .i64 x.n) ∧ (w.drewN nd).cell? ⟨g, o + k * 3 + 2, none⟩ = some (.string x.s) := hc k x hx
    obtain ⟨c20, c21, c22⟩ : (w.drewN nd).cell? ⟨g', o' + k * 3, none⟩ = some (.int .i64 y.kind) ∧ (w.drewN nd).cell? ⟨g', o' + k * 3 + 1, none⟩ = some (.int .i64 y.n) ∧ (w.drewN nd).cell? ⟨g', o' + k * 3 + 2, none⟩ = some (.string y.s) := hc' k y hy
    have hil : (k : Int) < l.length := by omega
    have hil2 : (k : Int) < m.length := by have := HL.out; omega
    obtain ⟨wx, hwx⟩ : ∃ wx, w.drewN nd = wx := ⟨_, rfl⟩
    rw [hwx] at c10 c11 c12 c20 c21 c22 ⊢
    have HWX := Lib.hid hwx
    have HKM := Lib.hid hkm
    by_cases hxy : x = y
    ·
     have hb1 := fun W => neq_vals W x y false (by simp [hxy])
     have HST : Hid (SameRelV w l m (k + 1) wx) := by
      have h1 : l.take (k + 1) = m.take (k + 1) := by rw [List.take_add_one, List.take_add_one, hkm, hx, hy, hxy]
      exact ⟨h1, nd, HWX.out.symm⟩
     clear hxy hx hy hc hc' hkm hwx
     go_wp2
     go_quiet (fail)
     go_wp2
     refine ⟨⟨k + 1, by omega, by go_num, HST.out.later _⟩, by simp [intOf]; omega⟩
    ·
     have hb1 := fun W => neq_vals W x y true (by simpa using hxy)
     have HNE := Lib.hid (show decide (l = m) = false by
      simp only [decide_eq_false_iff_not]; intro e; rw [e, hy] at hx; exact hxy (Option.some.inj hx).symm)
     clear hxy hx hy hc hc' hkm hwx
     go_wp2
     go_quiet (fail)
     go_wp2
     go_ret
     rw [HNE.out]
     rename_i nq _
     exact ⟨rfl, _, by rw [← HWX.out, World.drewN_drewN]⟩
   ·
    have : k = l.length := by omega
    subst this
    have HEQ := Lib.hid (show decide (l = m) = true by
     simp only [decide_eq_true_eq]
     rw [List.take_length, HL.out, List.take_length] at hkm; exact hkm)
    clear hkm
    go_wp2
    go_ret
    rw [HEQ.out]
    exact ⟨rfl, _, rfl⟩
 ·
  have hne : (((l.length : Int)) != (m.length : Int)) = true := by simp; omega
  have HN := Lib.hid (show decide (l = m) = false by simp; intro e; exact hlen (by rw [e]))
  clear hlen
  go_enter Tryz.func77, Tryz.ntmps77
  go_wp2
  go_ret
  rw [HN.out]
  exact ⟨rfl, 0, rfl⟩
/-- A row is appended to one of the law's own. -/
theorem wpList_append_sees {ops : Array Oper} {rest : List Oper} {o : Oper} {a : Act} {W : World} {Q : Exit → Act → World → Prop} (hg : o.guard = none) (s x : Operand)
  (ho : o.op = .call { callee := .builtin .append, args := #[s, x], argTypes := #[56, 56] }) (v : Value) (xs : List V) (hs : a.eval s = v) (h : slIs W 24 3 V.cells v xs) (sv : Value) (l : List V) (hx : a.eval x = sv) (hsv : SeesV W sv l) (hlen : xs.length + l.length ≤ 4194304)
  (k : ∀ va vc w', slIs w' 24 3 V.cells (.slice va (xs.length + l.length) vc) (xs ++ l) → W.grownBy w' v.ownBlock → ((Value.slice va (xs.length + l.length) vc).ownBlock = v.ownBlock ∨ (Value.slice va (xs.length + l.length) vc).ownBlock = some W.heap.size) → wpList Tryz.prog ops Q rest (a.put o.dst (.slice va (xs.length + l.length) vc)) w') :
  wpList Tryz.prog ops Q (o :: rest) a W := by
 obtain ⟨i0, hi, iz0, iz1, iz2⟩ := info_parts info_val
 obtain ⟨p, cap, rfl, q1, q2, q3⟩ := hsv
 cases p with
 | none =>
  have hl : l = [] := by
   rcases q3 with h | ⟨g, o, h, _⟩
   ·
    exact h
   ·
    cases h
  subst hl
  obtain ⟨va, vc, rfl⟩ := h.form
  refine Lib.wpList_append_run W hg s x _ _ ho _ _ hs hx _ _ (run_append_nothing (P := Tryz.prog) W 56 o.type 24 i0 Tryz.underlying56 hi va xs.length vc cap h.caps.2.1) ?_
  have := k va vc W (by simpa using h) ⟨rfl, rfl, rfl, Nat.le_refl _, fun _ _ _ => rfl⟩ (.inl rfl)
  simpa using this
 | some p =>
  have hcells : ∀ j u, (l.flatMap V.cells)[j]? = some u → W.cell? (p.add j) = some u := by
   rcases q3 with h | ⟨g, o, h, hh⟩
   ·
    subst h; intro j u hu; simp at hu
   ·
    cases h; exact SeesV.cells hh
  refine wpList_append_own_at W hg s x 56 ho 0 24 i0 _ 3 32 Tryz.underlying56 hi iz0 iz1 iz2 rfl (by decide) v xs.length (xs.flatMap V.cells) hs h p l.length cap (l.flatMap V.cells) hx (flatMap_length V.cells 3 V.cells_len l) hcells ?_ ?_ ?_ (Nat.zero_le _) ?_
  ·
   intro u hu; obtain ⟨v, _, hv⟩ := List.mem_flatMap.1 hu; simp [V.cells] at hv; rcases hv with rfl | rfl | rfl <;> rfl
  ·
   exact Nat.le_trans hlen (by decide)
  ·
   omega
  ·
   intro v' w' hown hgr hnil hat
   obtain ⟨va, vc, rfl⟩ := ownsRow_form hown
   refine k va vc w' ⟨flatMap_length _ _ V.cells_len _, ?_⟩ hgr hat
   have := hown.2
   rw [List.flatMap_append, List.length_append]
   exact this
end Go.Proofs.YtijlebhoapdfnaaGreat
