import Derived.Test.YtobcnffjfclolaaDoorIter
import Derived.Test.YtobcnffjfclolaaDoorFit
import Derived.Maps.OwnIn
/- Objects: isClass, ref, key, missing, order. -/
namespace Go.Proofs.YtobcnffjfclolaaDoor
set_option linter.unusedSimpArgs false
open Go.RowKit
set_option linter.unusedVariables false
attribute [local go_sem] Oper.semAt_some
def HeapM.isClass (H : HeapM) (v : V) : Bool := decide (H.kind v = 5)
/-- A value by its number alone. -/
def V.asRef (v : V) : V := V.ref v.n v.hn
def HeapM.order (H : HeapM) (v : V) : List V := if H.isClass v = true then v.asRef :: ((H.items v).filter H.isClass).map V.asRef else []
def keyS (s : ByteArray) (h : s.size ≤ maxLen) : V := ⟨3, 0, s, by decide, by decide, h⟩
section
variable {w W : World} {Rs : List Res} {h : Nat} {H : HeapM}
theorem isClass_ok (S : Sep w Rs W) (i : Nat) (hi : Rs[i]? = some (heapR h H)) (v : V) : Calls Tryd.prog 48 #[.pointer (some ⟨h, 0, none⟩), v.val] W fun e W' => e = .returned (.bool (H.isClass v)) ∧ Sep w Rs W' := by
  have C := Lib.hid ((S.alloc (.cells #[.int .i64 v.kind, .int .i64 v.n, .string v.s] 31)).kind (i + 1) (by simpa using hi) v)
  have hk : (H.kind v == 5) = H.isClass v := by unfold HeapM.isClass; rw [Bool.eq_iff_iff]; simp
  obtain ⟨kd, hkd⟩ : ∃ gx_, (H.kind v) = gx_ := ⟨_, rfl⟩
  rw [hkd] at C hk
  obtain ⟨b, hb⟩ : ∃ gx_, (H.isClass v) = gx_ := ⟨_, rfl⟩
  rw [hb] at hk ⊢
  clear S hi hkd hb
  simp only [V.val] at *
  go_enter Tryd.func48, Tryd.ntmps48
  go_wp2_with fail
  refine (C.out).mono ?_
  rintro e w1 ⟨rfl, S1, -⟩
  have S2 := Lib.hid S1.tail
  clear S1 C
  go_wp2
  go_ret
  exact ⟨rfl, S2.out⟩
theorem oref_ok (W : World) (v : V) : Calls Tryd.prog 53 #[v.val] W fun e W' => e = .returned v.asRef.val ∧ Below W.heap.size W W' := by
  simp only [V.val, V.asRef, V.ref]
  go_enter Tryd.func53, Tryd.ntmps53
  go_wp2
  exact bodyPost_ret (v := .agg #[.int .i64 4, .int .i64 v.n, .string ⟨#[]⟩]) (by simp [results, Tryd.results53, go_sem]) rfl ⟨rfl, by (repeat (first | exact Below.refl _ _ | assumption | refine Below.drewN ?_ _ | refine Below.drew ?_ | refine Below.alloc ?_ (by (try simp only [World.size_alloc, size_drewN, size_setCell]); omega) _ | refine Below.setCell ?_ (by (try simp only [World.size_alloc, size_drewN, size_setCell]); omega) _))⟩
theorem order_ok (W : World) (v : V) : Calls Tryd.prog 64 #[.pointer (some ⟨h, 0, none⟩), v.val] W fun e W' => e = .returned (.func (.func 77) #[] #[.pointer (some ⟨W.heap.size, 0, none⟩), .pointer (some ⟨W.heap.size + 1, 0, none⟩)]) ∧
    W' = (W.alloc (.cells #[.pointer (some ⟨h, 0, none⟩)] 28)).alloc (.cells #[.int .i64 v.kind, .int .i64 v.n, .string v.s] 31) := by
  simp only [V.val]
  go_enter Tryd.func64, Tryd.ntmps64
  go_wp2
  go_ret
  exact ⟨rfl, rfl⟩
theorem enters_order : Enters Tryd.prog 77 := enters_of Tryd.func77 (by kernel_rfl) rfl
def atV (L : List V) (k : Nat) : V := L[k]?.getD V.zero
def orderE (L : List V) (k : Nat) : Array Value := #[(atV L k).val]
abbrev orderF (b1 b2 : Nat) (v : V) (h : Nat) (H : HeapM) : List Res := [boxR b1 (.cells #[.pointer (some ⟨h, 0, none⟩)] 28), boxR b2 (.cells #[.int .i64 v.kind, .int .i64 v.n, .string v.s] 31), heapR h H]
theorem orderF_at {b1 b2 : Nat} {v : V} (R Gs : List Res) : (R ++ (orderF b1 b2 v h H ++ Gs))[R.length]? = some (boxR b1 (.cells #[.pointer (some ⟨h, 0, none⟩)] 28)) ∧
    (R ++ (orderF b1 b2 v h H ++ Gs))[R.length + 1]? = some (boxR b2 (.cells #[.int .i64 v.kind, .int .i64 v.n, .string v.s] 31)) ∧ (R ++ (orderF b1 b2 v h H ++ Gs))[R.length + 2]? = some (heapR h H) := by
  refine ⟨?_, ?_, ?_⟩ <;> (rw [List.getElem?_append_right (by omega)]; simp)
theorem order_step {H : HeapM} {l : List V} {k : Nat} {x : V} (hx : l[k]? = some x) : ((l.take (k + 1)).filter H.isClass).length = ((l.take k).filter H.isClass).length + (H.isClass x).toNat := by
  rw [List.take_add_one, hx, Option.toList_some, List.filter_append, List.length_append]
  cases hc : H.isClass x <;> simp [hc]
theorem filter_get {l : List V} {q : V → Bool} {k : Nat} {x : V} (hx : l[k]? = some x) (hq : q x = true) : (l.filter q)[((l.take k).filter q).length]? = some x := by
  have hl := (List.getElem?_eq_some_iff.1 hx).1
  have e : l = l.take k ++ (x :: l.drop (k + 1)) := by
    have hp : l[k] = x := (List.getElem?_eq_some_iff.1 hx).2
    rw [← hp, ← List.drop_eq_getElem_cons hl, List.take_append_drop]
  have h : ∀ A B : List V, ((A ++ x :: B).filter q)[(A.filter q).length]? = some x := fun A B => by
    rw [List.filter_append, List.filter_cons_of_pos hq, List.getElem?_append_right (Nat.le_refl _)]; simp
  have := h (l.take k) (l.drop (k + 1))
  rwa [← e] at this
theorem order_get {H : HeapM} {v : V} (hv : H.isClass v = true) {k : Nat} {x : V} (hx : (H.items v)[k]? = some x) (hc : H.isClass x = true) : (H.order v)[((H.items v).take k |>.filter H.isClass).length + 1]? = some x.asRef := by
  unfold HeapM.order
  rw [if_pos hv, List.getElem?_cons_succ, List.getElem?_map, filter_get hx hc]; rfl
theorem order_len {H : HeapM} {v : V} (hv : H.isClass v = true) : (H.order v).length = ((H.items v).filter H.isClass).length + 1 := by
  unfold HeapM.order
  rw [if_pos hv]; simp
set_option maxRecDepth 100000 in
set_option maxHeartbeats 1600000 in
theorem order_iter (b1 b2 : Nat) (v : V) {N : Nat} (G : H.Good N) (hN : N ≤ 4000000) :
    IterSep Tryd.prog w 77 #[.pointer (some ⟨b1, 0, none⟩), .pointer (some ⟨b2, 0, none⟩)] (orderE (H.order v)) (H.order v).length (orderF b1 b2 v h H) := by
  intro l In Ex W1 R hY h0 S0
  have A0 := orderF_at (b1 := b1) (b2 := b2) (v := v) (h := h) (H := H) R []
  rw [List.append_nil] at A0
  have x1 := cellAt (S0.box _ A0.1) 0 (v := .pointer (some ⟨h, 0, none⟩)) rfl
  have y0 := cellAt (S0.box _ A0.2.1) 0 (v := .int .i64 v.kind) rfl
  have y1 := cellAt (S0.box _ A0.2.1) 1 (v := .int .i64 v.n) rfl
  have y2 := cellAt (S0.box _ A0.2.1) 2 (v := .string v.s) rfl
  have C := Lib.hid (isClass_ok S0 _ A0.2.2 v)
  have HY := Lib.hid hY
  have HG := Lib.hid (And.intro G hN)
  clear hY S0 A0 G hN
  refine (callsIn_wide (n := 8)).1 ?_
  refine callsIn_of_wp Tryd.func77 rfl trivial ?_ rfl
  simp only [Tryd.ntmps77, List.size_toArray, List.length_cons, List.length_nil, Nat.reduceAdd, Nat.reduceSub, Array.replicate_succ, Array.replicate_zero, List.push_toArray, List.append_toArray, List.nil_append, List.cons_append]
  gi_wp2_with fail
  refine ⟨trivial, (callsIn_wide.2 C.out).mono ?_⟩
  rintro e w1 ⟨rfl, S1⟩
  clear x1 y0 y1 y2
  cases hv : H.isClass v with
  | false =>
    have hO : H.order v = [] := by unfold HeapM.order; rw [hv]; rfl
    have S2 := Lib.hid S1
    clear S1 C HY
    gi_wp2
    refine ⟨trivial, ?_⟩
    gi_wp2
    refine ⟨fun _ h => (by cases h), ?_⟩
    gi_wp2
    refine bodyPost_ret (results_none rfl _ _ _) rfl ?_
    refine ⟨⟨_, rfl⟩, .inl ⟨R, ?_, S2.out⟩⟩
    rw [hO]; exact h0
  | true =>
    have hlen := order_len hv
    have h00 : (H.order v)[0]? = some v.asRef := by unfold HeapM.order; rw [if_pos hv]; rfl
    have A1 := orderF_at (b1 := b1) (b2 := b2) (v := v) (h := h) (H := H) R []
    rw [List.append_nil] at A1
    have y0 := cellAt (S1.box _ A1.2.1) 0 (v := .int .i64 v.kind) rfl
    have y1 := cellAt (S1.box _ A1.2.1) 1 (v := .int .i64 v.n) rfl
    have y2 := cellAt (S1.box _ A1.2.1) 2 (v := .string v.s) rfl
    have C2 := Lib.hid (oref_ok w1 v)
    have S2 := Lib.hid S1
    clear S1 C A1
    gi_wp2_with fail
    refine ⟨trivial, (callsIn_wide.2 C2.out).mono ?_⟩
    rintro e w2 ⟨rfl, b2'⟩
    have S3 := S2.out.later b2'
    have henc : orderE (H.order v) 0 = #[v.asRef.val] := by unfold orderE atV; rw [h00]; rfl
    obtain ⟨fn, tmps, assign, body, hy, hR⟩ := HY.out 0 R w2 [] (by rw [hlen]; omega) h0 (by rw [List.append_nil]; exact S3)
    rw [henc] at hy
    simp only [V.val] at hy ⊢
    clear C2 S2 y0 y1 y2 b2'
    gi_wp2_with fail
    refine hR.mono ?_
    rintro e w3 (⟨rfl, R1, hR1, S4⟩ | ⟨rfl, R1, hR1, S4⟩)
    · clear hy hR S3
      rw [List.append_nil] at S4
      have A1 := orderF_at (b1 := b1) (b2 := b2) (v := v) (h := h) (H := H) R1 []
      rw [List.append_nil] at A1
      have x1 := cellAt (S4.box _ A1.1) 0 (v := .pointer (some ⟨h, 0, none⟩)) rfl
      have y0 := cellAt (S4.box _ A1.2.1) 0 (v := .int .i64 v.kind) rfl
      have y1 := cellAt (S4.box _ A1.2.1) 1 (v := .int .i64 v.n) rfl
      have y2 := cellAt (S4.box _ A1.2.1) 2 (v := .string v.s) rfl
      have C3 := Lib.hid (S4.items _ A1.2.2 HG.out.1 HG.out.2 v)
      have hil := HG.out.1.items v
      have hget := fun (k : Nat) (x : V) (hx : (H.items v)[k]? = some x) (hc : H.isClass x = true) => order_get hv hx hc
      clear S4 A1
      gi_wp2_with fail
      refine ⟨trivial, (callsIn_wide.2 C3.out).mono ?_⟩
      rintro e w4 ⟨sv, rfl, S5, -⟩
      obtain ⟨ia, ic, rfl⟩ := (S5.row 0 rfl).form
      obtain ⟨I, hI⟩ : ∃ gx_, (H.items v) = gx_ := ⟨_, rfl⟩
      rw [hI] at S5 hil hget hlen ⊢
      have hili : (I.length : Int) ≤ 4000000 := by have := HG.out.2; omega
      have HH := Lib.hid (And.intro hget hlen)
      have S6 : Sep w (R1 ++ (orderF b1 b2 v h H ++ [valsR (.slice ia I.length ic) I])) w4 := by
        exact S5.perm (by have := tail_perm (valsR (.slice ia I.length ic) I) R1 (orderF b1 b2 v h H) []; rw [List.append_nil] at this; exact this)
      have S7 := Lib.hid S6
      have HR1 : Hid (In (((I.take 0).filter H.isClass).length + 1) R1) := Lib.hid hR1
      clear C3 x1 y0 y1 y2 hget hlen hI S5 S6 hR1 hil
      gi_wp2_with fail
      gi_loopw [21] (fun iv wr => ∃ (k : Nat) (R' : List Res), k ≤ I.length ∧ iv = .int .i64 k ∧ In (((I.take k).filter H.isClass).length + 1) R' ∧ Sep w (R' ++ (orderF b1 b2 v h H ++ [valsR (.slice ia I.length ic) I])) wr) (fun iv _ => I.length - (intOf iv).toNat)
      case atStart => exact ⟨0, R1, by omega, rfl, HR1.out, S7.out⟩
      case round =>
        clear S7 HR1
        obtain ⟨k, R2, hk, rfl, hIn, S8⟩ := hrel
        have A2 := orderF_at (b1 := b1) (b2 := b2) (v := v) (h := h) (H := H) R2 [valsR (.slice ia I.length ic) I]
        have A3 : (R2 ++ (orderF b1 b2 v h H ++ [valsR (.slice ia I.length ic) I]))[R2.length + 3]? = some (valsR (.slice ia I.length ic) I) := by rw [List.getElem?_append_right (by omega)]; simp
        by_cases hlt : k < I.length
        · have hlti : (k : Int) < I.length := by omega
          obtain ⟨x, hx⟩ : ∃ x, I[k]? = some x := ⟨I[k], by simp [hlt]⟩
          have hrow := S8.row _ A3
          obtain ⟨ig, rfl⟩ : ∃ g, ia = some ⟨g, 0, none⟩ := by
            rcases hrow.shape with ⟨h1, h2⟩ | ⟨g, cap, h1, _⟩
            · rw [h2] at hlt; simp at hlt
            · exact ⟨g, (Value.slice.inj h1).1⟩
          have z0 := hrow.cell V.cells_len rfl hx (j := 0) (u := .int .i64 x.kind) rfl
          have z1 := hrow.cell V.cells_len rfl hx (j := 1) (u := .int .i64 x.n) rfl
          have z2 := hrow.cell V.cells_len rfl hx (j := 2) (u := .string x.s) rfl
          rw [Nat.add_zero] at z0
          have hst := order_step (H := H) hx
          obtain ⟨vb, hvb⟩ : ∃ gx_, (wr.heap.size) = gx_ := ⟨_, rfl⟩
          have S9 := S8.alloc (.cells #[.int .i64 x.kind, .int .i64 x.n, .string x.s] 31)
          rw [hvb] at S9
          have x1 := cellAt (S9.box (R2.length + 1) (by rw [List.getElem?_cons_succ]; exact A2.1)) 0 (v := .pointer (some ⟨h, 0, none⟩)) rfl
          have C4 := Lib.hid (isClass_ok S9 (R2.length + 2 + 1) (by rw [List.getElem?_cons_succ]; exact A2.2.2) x)
          have p0 := cellAt (S9.box 0 rfl) 0 (v := .int .i64 x.kind) rfl
          have p1 := cellAt (S9.box 0 rfl) 1 (v := .int .i64 x.n) rfl
          have p2 := cellAt (S9.box 0 rfl) 2 (v := .string x.s) rfl
          have HX := Lib.hid (And.intro hx (And.intro hlt (And.intro hst hIn)))
          clear hrow S8 S9 hst hIn hlt hx A2 A3
          gi_wp2_with fail
          refine ⟨trivial, (callsIn_wide.2 C4.out).mono ?_⟩
          rintro e w5 ⟨rfl, S10⟩
          cases hc : H.isClass x with
          | false =>
            have S11 := Lib.hid S10.tail
            have hs2 := HX.out.2.2.1
            rw [hc] at hs2
            have HS2 := Lib.hid hs2
            clear C4 S10 z0 z1 z2 x1 p0 p1 p2 hs2
            gi_wp2
            refine ⟨trivial, ?_⟩
            gi_wp2
            refine ⟨fun _ h => (by cases h), ?_⟩
            gi_wp2
            refine ⟨⟨k + 1, R2, by have := HX.out.2.1; omega, by go_num, ?_, S11.out⟩, by have := HX.out.2.1; simp [intOf]; omega⟩
            rw [HS2.out]; exact HX.out.2.2.2
          | true =>
            have hs2 := HX.out.2.2.1
            rw [hc] at hs2
            have hge := HH.out.1 k x HX.out.1 hc
            have q0 := cellAt (S10.box 0 rfl) 0 (v := .int .i64 x.kind) rfl
            have q1 := cellAt (S10.box 0 rfl) 1 (v := .int .i64 x.n) rfl
            have q2 := cellAt (S10.box 0 rfl) 2 (v := .string x.s) rfl
            have C5 := Lib.hid (oref_ok w5 x)
            have S11 := Lib.hid S10.tail
            have HS2 := Lib.hid (And.intro hs2 hge)
            clear C4 S10 z0 z1 z2 x1 p0 p1 p2 hs2 hge
            gi_wp2_with fail
            refine ⟨trivial, (callsIn_wide.2 C5.out).mono ?_⟩
            rintro e w6 ⟨rfl, b6⟩
            have S12 := S11.out.later b6
            have hkl : ((I.take k).filter H.isClass).length + 1 < (H.order v).length := (List.getElem?_eq_some_iff.1 HS2.out.2).1
            have henc : orderE (H.order v) (((I.take k).filter H.isClass).length + 1) = #[x.asRef.val] := by unfold orderE atV; rw [HS2.out.2]; rfl
            obtain ⟨fn, tmps, assign, body, hy, hR⟩ := HY.out (((I.take k).filter H.isClass).length + 1) R2 w6 _ hkl HX.out.2.2.2 S12
            rw [henc] at hy
            simp only [V.val] at hy ⊢
            have HKL := Lib.hid hkl
            clear C5 S11 q0 q1 q2 b6 hkl henc S12
            gi_wp2_with fail
            refine hR.mono ?_
            rintro e w7 (⟨rfl, R3, hR3, S13⟩ | ⟨rfl, R3, hR3, S13⟩)
            · have S14 := Lib.hid S13
              have HR3 := Lib.hid hR3
              clear hy hR S13 hR3
              gi_wp2
              refine ⟨⟨k + 1, R3, by have := HX.out.2.1; omega, by go_num, ?_, S14.out⟩, by have := HX.out.2.1; simp [intOf]; omega⟩
              rw [HS2.out.1]; exact HR3.out
            · have S14 := Lib.hid (S13.sub (List.sublist_append_left R3 _))
              have HR3 := Lib.hid hR3
              clear hy hR S13 hR3
              gi_wp2
              refine bodyPost_ret (results_none rfl _ _ _) rfl ?_
              exact ⟨⟨_, rfl⟩, .inr ⟨_, R3, HKL.out, HR3.out, S14.out⟩⟩
        · have hlti : ¬ (k : Int) < I.length := by omega
          have S9 := Lib.hid (S8.sub (List.Sublist.append_left (List.sublist_append_left (orderF b1 b2 v h H) _) R2))
          rw [List.take_of_length_le (by omega)] at hIn
          have HIN := Lib.hid hIn
          clear S8 hlt A2 A3 hIn
          gi_wp2
          refine bodyPost_end (results_none rfl _ _ _) rfl ?_
          exact ⟨⟨_, rfl⟩, .inl ⟨R2, by rw [HH.out.2]; exact HIN.out, S9.out⟩⟩
    · have S5 := Lib.hid S4
      clear hy hR S3 S4
      gi_wp2
      refine bodyPost_ret (results_none rfl _ _ _) rfl ?_
      rw [List.append_nil] at S5
      exact ⟨⟨_, rfl⟩, .inr ⟨1, R1, by rw [hlen]; omega, hR1, S5.out⟩⟩
end
end Go.Proofs.YtobcnffjfclolaaDoor
/- Objects: Order. -/
namespace Go.Proofs.YtobcnffjfclolaaDoor
set_option linter.unusedSimpArgs false
open Go.RowKit
set_option linter.unusedVariables false
attribute [local go_sem] Oper.semAt_some
section
variable {w W : World} {Rs : List Res} {h : Nat} {H : HeapM} {F : Fence} {nF : Nat}
theorem wpListIn_push_v {ops : Array Oper} {rest : List Oper} {o : Oper} {a : Act} {Q : Exit → Act → World → Prop} (hg : o.guard = none) (s x : Operand)
    (ho : o.op = .call { callee := .builtin .append, args := #[s, x], argTypes := #[48, 48] }) {v : Value} {xs : List V} (S : Sep w Rs W) (j : Nat) (hj : Rs[j]? = some (valsR v xs)) (hs : a.eval s = v) (y : V) (g : Nat) (hx : a.eval x = .slice (some ⟨g, 0, none⟩) 1 1) (hb : W.heap[g]? = some (.cells #[.int .i64 y.kind, .int .i64 y.n, .string y.s] 31)) (hlen : xs.length + 1 ≤ 4194304)
    (k : ∀ va vc w', Sep w (Rs.set j (valsR (.slice va (xs.length + 1) vc) (xs ++ [y]))) w' → wpListIn F nF Tryd.prog ops Q rest (a.put o.dst (.slice va (xs.length + 1) vc)) w') :
    wpListIn F nF Tryd.prog ops Q (o :: rest) a W := by
  obtain ⟨i0, hi, iz0, iz1, iz2⟩ := info_parts info_val
  refine wpListIn_append_own_at W hg s x 48 ho 0 31 i0 _ 3 32 Tryd.underlying48 hi iz0 iz1 iz2 rfl (by decide) v xs.length (xs.flatMap V.cells) hs (S.row j hj) ⟨g, 0, none⟩ 1 1 y.cells hx rfl (news_block hb) ?_ ?_ ?_ (Nat.zero_le _) ?_
  · intro u hu; simp [V.cells] at hu; rcases hu with rfl | rfl | rfl <;> rfl
  · exact Nat.le_trans hlen (by decide)
  · omega
  · intro v' w' hown hgr hnil hat
    obtain ⟨va, vc, rfl⟩ := ownsRow_form hown
    refine k va vc w' (S.grown j hj ⟨flatMap_length _ _ V.cells_len _, ?_⟩ hgr hat)
    have := hown.2
    rw [List.flatMap_append, List.length_append]
    simpa using this
theorem wpListIn_push_i {ops : Array Oper} {rest : List Oper} {o : Oper} {a : Act} {Q : Exit → Act → World → Prop} (hg : o.guard = none) (s x : Operand)
    (ho : o.op = .call { callee := .builtin .append, args := #[s, x], argTypes := #[89, 89] }) {v : Value} {xs : List Int} (S : Sep w Rs W) (j : Nat) (hj : Rs[j]? = some (numsR v xs)) (hs : a.eval s = v) (y : Int) (g : Nat) (hx : a.eval x = .slice (some ⟨g, 0, none⟩) 1 1) (hb : W.heap[g]? = some (.cells #[.int .i64 y] 2)) (hlen : xs.length + 1 ≤ 17592186044416)
    (k : ∀ va vc w', Sep w (Rs.set j (numsR (.slice va (xs.length + 1) vc) (xs ++ [y]))) w' → wpListIn F nF Tryd.prog ops Q rest (a.put o.dst (.slice va (xs.length + 1) vc)) w') :
    wpListIn F nF Tryd.prog ops Q (o :: rest) a W := by
  obtain ⟨i0, hi, iz0, iz1, iz2⟩ := info_parts info_int64
  refine wpListIn_append_own_at W hg s x 89 ho 0 2 i0 _ 1 8 Tryd.underlying89 hi iz0 iz1 iz2 rfl (by decide) v xs.length (xs.flatMap intCell) hs (S.row j hj) ⟨g, 0, none⟩ 1 1 (intCell y) hx rfl (news_block hb) ?_ ?_ ?_ (Nat.zero_le _) ?_
  · intro u hu; simp [intCell] at hu; subst hu; rfl
  · exact Nat.le_trans hlen (by decide)
  · omega
  · intro v' w' hown hgr hnil hat
    obtain ⟨va, vc, rfl⟩ := ownsRow_form hown
    refine k va vc w' (S.grown j hj ⟨flatMap_length intCell 1 (fun _ => rfl) _, ?_⟩ hgr hat)
    have := hown.2
    rw [List.flatMap_append, List.length_append]
    simpa using this
/-- What AppendSeq has gathered. -/
def gotR (B : Nat) (L : List V) (Rs : List Res) (k : Nat) (R : List Res) : Prop := ∃ a c, R = boxR B (.cells #[.slice a (L.take k).length c] 48) :: valsR (.slice a (L.take k).length c) (L.take k) :: Rs
set_option maxRecDepth 100000 in
set_option maxHeartbeats 1600000 in
theorem seq_ok (b1 b2 : Nat) (v : V) (S : Sep w (Rs ++ orderF b1 b2 v h H) W) {N : Nat} (G : H.Good N) (hN : N ≤ 4000000) :
    Calls Tryd.prog 79 #[.slice none 0 0, .func (.func 77) #[] #[.pointer (some ⟨b1, 0, none⟩), .pointer (some ⟨b2, 0, none⟩)]] W fun e W' => ∃ sv, e = .returned sv ∧ Sep w (valsR sv (H.order v) :: (Rs ++ orderF b1 b2 v h H)) W' := by
  have IT := Lib.hid (order_iter (w := w) (h := h) (H := H) b1 b2 v G hN)
  have hlen : (H.order v).length ≤ 4000001 := by
    unfold HeapM.order
    split
    · have h1 := List.length_filter_le H.isClass (H.items v)
      have h2 := G.items v
      simp; omega
    · simp
  obtain ⟨L, hL⟩ : ∃ gx_, (H.order v) = gx_ := ⟨_, rfl⟩
  rw [hL] at IT hlen ⊢
  have HL := Lib.hid hlen
  have S0 := (S.addRow (Below.refl _ _) (e := 31) (m := 3) (f := V.cells) (v := .slice none 0 0) (l := []) (World.ownsRow_nil _ _ _ _) (by simp [Value.ownBlock])).alloc (.cells #[.slice none 0 0] 48)
  obtain ⟨B, hB⟩ : ∃ gx_, (W.heap.size) = gx_ := ⟨_, rfl⟩
  rw [hB] at S0
  have S1 := Lib.hid S0
  have HB := Lib.hid hB
  clear S S0 hL hlen G hN
  refine (callsIn_wide (n := 9)).1 ?_
  refine callsIn_of_wp_marks Tryd.func79 rfl trivial ?_ rfl
  simp only [Tryd.ntmps79, List.size_toArray, List.length_cons, List.length_nil, Nat.reduceAdd, Nat.reduceSub, Array.replicate_succ, Array.replicate_zero, List.push_toArray, List.append_toArray, List.nil_append, List.cons_append]
  gi_wp2_with fail
  obtain ⟨W0, hW0⟩ : ∃ gx_, (W.alloc (.cells #[.slice none 0 0] 48)) = gx_ := ⟨_, rfl⟩
  rw [hW0] at S1 ⊢
  have z0 : W0.heap.size = B + 1 := by rw [← hW0]; simp [hB]
  clear hW0 hB
  refine range_sep (w := w) (B := B + 1) z0 (hg := rfl) enters_order (fun _ => rfl) (gotR B L Rs) (fun _ _ _ => False) (n := L.length) (encs := orderE L) IT.out
    (R0 := boxR B (.cells #[.slice none 0 0] 48) :: valsR (.slice none 0 0) [] :: Rs) ⟨none, 0, rfl⟩ S1.out
    (fun k s => { tmps := #[.slice none 0 0, .func (.func 77) #[] #[.pointer (some ⟨b1, 0, none⟩), .pointer (some ⟨b2, 0, none⟩)], .pointer (some ⟨B, 0, none⟩), undef, .slice none 0 0, .pointer (some ⟨s, 0, none⟩), .func (.func 77) #[] #[.pointer (some ⟨b1, 0, none⟩), .pointer (some ⟨b2, 0, none⟩)], (atV L k).val, undef, undef, undef, undef, undef], defers := [] })
    (fun k W => W.alloc (.cells #[.int .i64 (atV L k).kind, .int .i64 (atV L k).n, .string (atV L k).s] 31))
    (fun k s => [boxR s (.cells #[.int .i64 (atV L k).kind, .int .i64 (atV L k).n, .string (atV L k).s] 31)])
    (fun k W Rs _ S => S.alloc _) ?assign ?body ?done (fun _ _ _ _ _ h => h.elim)
  case assign =>
    intro l k W K hk hK
    simp only [V.val] at hK
    simp only [orderE, V.val]
    gi_wp2
    exact hK
  case body =>
    rintro l k s _ Gs W1 hk ⟨a, c, rfl⟩ S2
    obtain ⟨x, hx⟩ : ∃ x, L[k]? = some x := ⟨L[k], by simp [hk]⟩
    have hxe : atV L k = x := by unfold atV; rw [hx]; rfl
    have hnext : L.take (k + 1) = L.take k ++ [x] := by rw [List.take_add_one, hx]; rfl
    rw [hxe] at S2
    simp only [hxe, V.val]
    have hML : (L.take k).length ≤ 4000001 := by have := HL.out; simp; omega
    obtain ⟨M, hM⟩ : ∃ gx_, (L.take k) = gx_ := ⟨_, rfl⟩
    rw [hM] at S2 hnext hML
    have S3 : Sep w (boxR s (.cells #[.int .i64 x.kind, .int .i64 x.n, .string x.s] 31) :: boxR B (.cells #[.slice a M.length c] 48) :: valsR (.slice a M.length c) M :: (Rs ++ (orderF b1 b2 v h H ++ Gs))) W1 := S2
    have p0 := cellAt (S3.box 0 rfl) 0 (v := .int .i64 x.kind) rfl
    have p1 := cellAt (S3.box 0 rfl) 1 (v := .int .i64 x.n) rfl
    have p2 := cellAt (S3.box 0 rfl) 2 (v := .string x.s) rfl
    have q0 := cellAt (S3.box 1 rfl) 0 (v := .slice a M.length c) rfl
    have S4 := Lib.hid (S3.alloc (.cells #[.int .i64 x.kind, .int .i64 x.n, .string x.s] 31))
    have HX := Lib.hid (And.intro hnext hML)
    have HM := Lib.hid hM
    clear S2 S3 hx hxe hnext hML hM IT S1 z0 hk
    gi_wp2_with (gi_at_builtin; (refine wpListIn_push_v rfl _ _ rfl S4.out 3 rfl rfl x _ rfl (heapAllocNew _ _) (by have := HX.out.2; omega) ?_))
    intro va vc w2 S5
    have f0 := frozenAt (S5.box 2 rfl) 0
    have q1 := cellAt (S5.box 2 rfl) 0 (v := .slice a M.length c) rfl
    have S6 := Lib.hid ((S5.setBox (cs := #[.slice a M.length c]) (t := 48) 2 rfl 0 (.slice va (M.length + 1) vc)).tail.tail)
    clear S4 S5 p0 p1 p2 q0
    gi_wp2
    refine ⟨_, ⟨va, vc, rfl⟩, ?_⟩
    rw [HX.out.1]
    simpa using S6.out
  case done =>
    rintro _ W1 ⟨a, c, rfl⟩ S2
    rw [List.take_length] at S2
    have S3 : Sep w (boxR (B + 1) (.deferred (some [])) :: boxR B (.cells #[.slice a L.length c] 48) :: valsR (.slice a L.length c) L :: (Rs ++ orderF b1 b2 v h H)) W1 := S2
    have q0 := cellAt (S3.box 1 rfl) 0 (v := .slice a L.length c) rfl
    have S4 := Lib.hid S3
    clear S2 S3 IT S1 z0
    gi_wp2
    refine ⟨by simp, .inl ⟨_, _, rfl, run_takeDeferred (S4.out.box 0 rfl), ?_⟩⟩
    refine ⟨.slice a L.length c, by simp [results, Tryd.results79, go_sem], _, rfl, ?_⟩
    exact (S4.out.putObj 0 rfl (.deferred none)).tail.tail
theorem pull_perm {α : Type} : ∀ {l : List α} {i : Nat} {x : α}, l[i]? = some x → l.Perm (l.eraseIdx i ++ [x])
  | [], i, x, h => by simp at h
  | y :: l, 0, x, h => by
    simp at h; subst h
    show (y :: l).Perm (l ++ [y])
    exact List.perm_append_singleton y l |>.symm
  | y :: l, i + 1, x, h => by
    have := pull_perm (l := l) (i := i) (x := x) (by simpa using h)
    exact this.cons y
/-- The heap is put last, behind two boxes more. -/
theorem Sep.orderF {W : World} (S : Sep w Rs W) (i : Nat) (hi : Rs[i]? = some (heapR h H)) (v : V) :
    Sep w (Rs.eraseIdx i ++ orderF W.heap.size (W.heap.size + 1) v h H) ((W.alloc (.cells #[.pointer (some ⟨h, 0, none⟩)] 28)).alloc (.cells #[.int .i64 v.kind, .int .i64 v.n, .string v.s] 31)) := by
  have S1 := ((S.perm (pull_perm hi)).alloc (.cells #[.pointer (some ⟨h, 0, none⟩)] 28)).alloc (.cells #[.int .i64 v.kind, .int .i64 v.n, .string v.s] 31)
  rw [World.size_alloc] at S1
  refine S1.perm ?_
  refine (List.Perm.swap _ _ _).trans ?_
  have e : ∀ (A B C : Res) (X : List Res), (A :: B :: (X ++ [C])).Perm (X ++ [A, B, C]) := fun A B C X => by
    have h1 : (A :: B :: (X ++ [C])).Perm (A :: (X ++ [B, C])) := (List.perm_middle.symm).cons A
    exact h1.trans List.perm_middle.symm
  exact e _ _ _ _
theorem unorderF {A : Res} {i b1 b2 : Nat} {v : V} (hi : Rs[i]? = some (heapR h H)) : ∃ X, (A :: (Rs.eraseIdx i ++ orderF b1 b2 v h H)).Perm X ∧ (A :: Rs).Sublist X := by
  refine ⟨boxR b1 (.cells #[.pointer (some ⟨h, 0, none⟩)] 28) :: boxR b2 (.cells #[.int .i64 v.kind, .int .i64 v.n, .string v.s] 31) :: A :: Rs, ?_, .cons _ (.cons _ (List.Sublist.refl _))⟩
  have e : ∀ (A B C D : Res) (X : List Res), (D :: (X ++ [A, B, C])).Perm (A :: B :: D :: (X ++ [C])) := fun A B C D X => by
    have h1 : (D :: (X ++ [A, B, C])).Perm (D :: (A :: (X ++ [B, C]))) := (List.perm_middle).cons D
    have h2 : (D :: (A :: (X ++ [B, C]))).Perm (A :: (D :: (X ++ [B, C]))) := List.Perm.swap _ _ _
    have h3 : (A :: (D :: (X ++ [B, C]))).Perm (A :: (D :: (B :: (X ++ [C])))) := ((List.perm_middle).cons D).cons A
    have h4 : (A :: (D :: (B :: (X ++ [C])))).Perm (A :: (B :: (D :: (X ++ [C])))) := (List.Perm.swap _ _ _).cons A
    exact h1.trans (h2.trans (h3.trans h4))
  refine (e _ _ _ _ _).trans ?_
  exact (((pull_perm hi).symm.cons _).cons _).cons _
theorem collseq_ok (b1 b2 : Nat) (v : V) (S : Sep w (Rs ++ orderF b1 b2 v h H) W) {N : Nat} (G : H.Good N) (hN : N ≤ 4000000) :
    Calls Tryd.prog 66 #[.func (.func 77) #[] #[.pointer (some ⟨b1, 0, none⟩), .pointer (some ⟨b2, 0, none⟩)]] W fun e W' => ∃ sv, e = .returned sv ∧ Sep w (valsR sv (H.order v) :: (Rs ++ orderF b1 b2 v h H)) W' := by
  have C := Lib.hid (seq_ok b1 b2 v S G hN)
  clear S G hN
  go_enter Tryd.func66, Tryd.ntmps66
  go_wp2_with fail
  refine (C.out).mono ?_
  rintro e w1 ⟨sv, rfl, S1⟩
  have S2 := Lib.hid S1
  clear S1 C
  go_wp2
  go_ret
  exact ⟨_, rfl, S2.out⟩
set_option maxRecDepth 100000 in
theorem order_list (S : Sep w Rs W) (i : Nat) (hi : Rs[i]? = some (heapR h H)) {N : Nat} (G : H.Good N) (hN : N ≤ 4000000) (v : V) :
    Calls Tryd.prog 50 #[.pointer (some ⟨h, 0, none⟩), v.val] W fun e W' => ∃ sv, e = .returned sv ∧ Sep w (valsR sv (H.order v) :: Rs) W' := by
  have hU := Lib.hid (fun (b1 b2 : Nat) (sv : Value) => unorderF (Rs := boxR W.heap.size (.cells #[.int .i64 v.kind, .int .i64 v.n, .string v.s] 31) :: Rs) (A := valsR sv (H.order v)) (b1 := b1) (b2 := b2) (v := v) (i := i + 1) (by simpa using hi))
  have S1 := S.alloc (.cells #[.int .i64 v.kind, .int .i64 v.n, .string v.s] 31)
  have S2 := S1.orderF (i + 1) (by simpa using hi) v
  have C := Lib.hid (order_ok (h := h) (W.alloc (.cells #[.int .i64 v.kind, .int .i64 v.n, .string v.s] 31)) v)
  have C2 := Lib.hid (collseq_ok _ _ v S2 G hN)
  clear S hi G hN S1 S2
  simp only [V.val, World.size_alloc] at *
  go_enter Tryd.func50, Tryd.ntmps50
  go_wp2_with fail
  refine (C.out).mono ?_
  rintro e w1 ⟨rfl, rfl⟩
  go_wp2_with fail
  refine (C2.out).mono ?_
  rintro e w2 ⟨sv, rfl, S3⟩
  obtain ⟨X, x1, x2⟩ := hU.out _ _ sv
  have S4 := Lib.hid ((S3.perm x1).sub x2)
  clear S3 C C2 x1 x2
  go_wp2
  go_ret
  exact ⟨_, rfl, S4.out.swap.tail⟩
end
end Go.Proofs.YtobcnffjfclolaaDoor
