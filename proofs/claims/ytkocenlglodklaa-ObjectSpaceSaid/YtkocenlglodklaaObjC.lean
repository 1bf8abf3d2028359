/- Objects: Find, Sub. -/
import Derived.Test.YtkocenlglodklaaObjA
import Derived.Test.YtkocenlglodklaaRegI
import Derived.Sort.CutIn
import Derived.Stop.RegionWithIn
import Derived.Sort.AtCallIn
namespace Go.Proofs.Ytkocenlglodklaa
set_option linter.unusedSimpArgs false
open Go.RowKit
set_option linter.unusedVariables false
attribute [local go_sem] Oper.semAt_some
def HeapM.find (H : HeapM) (v key : V) : Option V := (H.order v).findSome? fun c => H.get c key
theorem find_none {H : HeapM} {v key : V} (h : ∀ j, j < (H.order v).length → H.get (atV (H.order v) j) key = none) : H.find v key = none := by
  unfold HeapM.find
  rw [List.findSome?_eq_none_iff]
  intro x hx
  obtain ⟨j, hj, rfl⟩ := List.getElem_of_mem hx
  have := h j hj
  unfold atV at this
  simpa [hj] using this
theorem find_some {H : HeapM} {v key x : V} {k : Nat} (hk : k < (H.order v).length) (h : ∀ j, j < k → H.get (atV (H.order v) j) key = none) (hx : H.get (atV (H.order v) k) key = some x) : H.find v key = some x := by
  unfold HeapM.find
  rw [List.findSome?_eq_some_iff]
  have e : (H.order v) = (H.order v).take k ++ ((H.order v)[k] :: (H.order v).drop (k + 1)) := by
    rw [← List.drop_eq_getElem_cons hk, List.take_append_drop]
  refine ⟨_, _, _, e, ?_, ?_⟩
  · unfold atV at hx; simpa [hk] using hx
  · intro y hy
    obtain ⟨j, hj, rfl⟩ := List.getElem_of_mem hy
    have hjk : j < k := by simp at hj; omega
    have := h j hjk
    unfold atV at this
    have hjl : j < (H.order v).length := by omega
    simpa [hjl] using this
abbrev zeroB (q : Nat) : Res := boxR q (.cells #[.int .i64 0, .int .i64 0, .string ⟨#[]⟩] 33)
abbrev valB (q : Nat) (x : V) : Res := boxR q (.cells #[.int .i64 x.kind, .int .i64 x.n, .string x.s] 33)
section
variable {w W : World} {Rs : List Res} {h : Nat} {H : HeapM}
theorem Sep.setVal {base : List Res} {q : Nat} {y : V} (S : Sep w (valB q y :: base) W) (x : V) : Sep w (valB q x :: base) (((W.setCell ⟨q, 0, none⟩ (.int .i64 x.kind)).setCell ⟨q, 1, none⟩ (.int .i64 x.n)).setCell ⟨q, 2, none⟩ (.string x.s)) := by
  have S1 := S.setBox (cs := #[.int .i64 y.kind, .int .i64 y.n, .string y.s]) (t := 33) 0 rfl 0 (.int .i64 x.kind)
  have S2 := S1.setBox (cs := #[.int .i64 x.kind, .int .i64 y.n, .string y.s]) (t := 33) 0 rfl 1 (.int .i64 x.n)
  exact S2.setBox (cs := #[.int .i64 x.kind, .int .i64 x.n, .string y.s]) (t := 33) 0 rfl 2 (.string x.s)
theorem Sep.setZero {base : List Res} {q : Nat} (S : Sep w (zeroB q :: base) W) (x : V) : Sep w (valB q x :: base) (((W.setCell ⟨q, 0, none⟩ (.int .i64 x.kind)).setCell ⟨q, 1, none⟩ (.int .i64 x.n)).setCell ⟨q, 2, none⟩ (.string x.s)) :=
  Sep.setVal (y := V.zero) S x
/-- Find's own cells. -/
abbrev findR (b3 b5 b6 b7 h : Nat) (s : ByteArray) (r : V) (ok : Bool) (Rs : List Res) : List Res := valB b6 r :: boxR b7 (.cells #[.bool ok] 4) :: boxR b5 (.cells #[.string s] 9) :: boxR b3 (.cells #[.pointer (some ⟨h, 0, none⟩)] 28) :: Rs
set_option maxRecDepth 100000 in
set_option maxHeartbeats 3200000 in
theorem find_ok (S : Sep w Rs W) (i : Nat) (hi : Rs[i]? = some (heapR h H)) {N : Nat} (G : H.Good N) (hN : N ≤ 4000000) (v : V) (s : ByteArray) (hs : s.size ≤ maxLen) :
    Calls Try.prog 16 #[.pointer (some ⟨h, 0, none⟩), v.val, .string s] W fun e W' => e = .returned (.tuple #[((H.find v (keyS s hs)).getD V.zero).val, .bool (H.find v (keyS s hs)).isSome]) ∧ Sep w Rs W' := by
  obtain ⟨b3, hb3⟩ : ∃ gx_, (W.heap.size) = gx_ := ⟨_, rfl⟩
  have S1 := ((((S.alloc (.cells #[.pointer (some ⟨h, 0, none⟩)] 28)).alloc (.cells #[.int .i64 v.kind, .int .i64 v.n, .string v.s] 33)).alloc (.cells #[.string s] 9)).alloc (.cells #[.int .i64 0, .int .i64 0, .string ⟨#[]⟩] 33)).alloc (.cells #[.bool false] 4)
  simp only [World.size_alloc, hb3] at S1
  have hall : (W.alloc (.cells #[.pointer (some ⟨h, 0, none⟩)] 28)).alloc (.cells #[.int .i64 v.kind, .int .i64 v.n, .string v.s] 33) = (W.alloc (.cells #[.pointer (some ⟨h, 0, none⟩)] 28)).alloc (.cells #[.int .i64 v.kind, .int .i64 v.n, .string v.s] 33) := rfl
  have HS := Lib.hid S1
  have HI := Lib.hid hi
  have HG := Lib.hid (And.intro G hN)
  clear S S1 hi hall G hN
  refine (callsIn_wide (n := 9)).1 ?_
  refine callsIn_of_wp_marks Try.func16 rfl trivial ?_ rfl
  simp only [Try.ntmps16, List.size_toArray, List.length_cons, List.length_nil, Nat.reduceAdd, Nat.reduceSub, Array.replicate_succ, Array.replicate_zero, List.push_toArray, List.append_toArray, List.nil_append, List.cons_append]
  simp only [V.val]
  gi_wp2_with fail
  obtain ⟨W1, hW1⟩ : ∃ gx_, (((((W.alloc (.cells #[.pointer (some ⟨h, 0, none⟩)] 28)).alloc (.cells #[.int .i64 v.kind, .int .i64 v.n, .string v.s] 33)).alloc (.cells #[.string s] 9)).alloc (.cells #[.int .i64 0, .int .i64 0, .string ⟨#[]⟩] 33)).alloc (.cells #[.bool false] 4)) = gx_ := ⟨_, rfl⟩
  rw [hW1] at HS ⊢
  have C := order_ok (h := h) W1 v
  simp only [V.val] at C
  replace C := Lib.hid C
  clear hW1 hb3
  refine ⟨trivial, (callsIn_wide.2 C.out).mono ?_⟩
  rintro e W2 ⟨rfl, hW2⟩
  have S2 := HS.out.orderF (i + 5) (by simpa using HI.out) v
  rw [← hW2] at S2
  obtain ⟨c1, hc1⟩ : ∃ gx_, (W1.heap.size) = gx_ := ⟨_, rfl⟩
  rw [hc1] at S2 ⊢
  have hB : W2.heap.size = c1 + 2 := by rw [hW2]; simp [hc1]
  clear hW2 hc1 C HS
  have IT := Lib.hid (order_iter (w := w) (h := h) (H := H) c1 (c1 + 1) v HG.out.1 HG.out.2)
  have HI2 : Hid (∀ W (A B C D : Res) (X : List Res), Sep w (A :: B :: (Rs.eraseIdx i ++ [heapR h H])) W → Sep w (A :: B :: Rs) W) := Lib.hid fun W A B C D X S => S.perm (((pull_perm HI.out).symm.cons _).cons _)
  obtain ⟨RE, hRE⟩ : ∃ gx_, (Rs.eraseIdx i) = gx_ := ⟨_, rfl⟩
  replace S2 : Sep w ((boxR (b3 + 1 + 1 + 1 + 1) (.cells #[.bool false] 4) :: zeroB (b3 + 1 + 1 + 1) :: boxR (b3 + 1 + 1) (.cells #[.string s] 9) :: boxR (b3 + 1) (.cells #[.int .i64 v.kind, .int .i64 v.n, .string v.s] 33) :: boxR b3 (.cells #[.pointer (some ⟨h, 0, none⟩)] 28) :: RE) ++ orderF c1 (c1 + 1) v h H) W2 := by rw [← hRE]; exact S2
  rw [hRE] at HI2
  clear hRE HI
  obtain ⟨L, hL⟩ : ∃ gx_, (H.order v) = gx_ := ⟨_, rfl⟩
  rw [hL] at IT
  have HL := Lib.hid hL
  replace S2 := Lib.hid S2
  clear hL
  gi_wp2_with fail
  refine range_sep (w := w) (B := c1 + 2) hB (hg := rfl) enters_order (fun _ => rfl)
    (fun k R => (∀ j, j < k → H.get (atV L j) (keyS s hs) = none) ∧ R = boxR (b3 + 1 + 1 + 1 + 1) (.cells #[.bool false] 4) :: zeroB (b3 + 1 + 1 + 1) :: boxR (b3 + 1 + 1) (.cells #[.string s] 9) :: boxR (b3 + 1) (.cells #[.int .i64 v.kind, .int .i64 v.n, .string v.s] 33) :: boxR b3 (.cells #[.pointer (some ⟨h, 0, none⟩)] 28) :: RE)
    (fun c k R => c = .ret ∧ ∃ x, H.find v (keyS s hs) = some x ∧ R = boxR (b3 + 1 + 1 + 1 + 1) (.cells #[.bool true] 4) :: valB (b3 + 1 + 1 + 1) x :: (RE ++ [heapR h H])) (n := L.length) (encs := orderE L) IT.out
    ⟨fun j hj => by omega, rfl⟩ S2.out
    (fun k s' => { tmps := #[.pointer (some ⟨h, 0, none⟩), .agg #[.int .i64 v.kind, .int .i64 v.n, .string v.s], .string s, .pointer (some ⟨b3, 0, none⟩), .pointer (some ⟨b3 + 1, 0, none⟩), .pointer (some ⟨b3 + 1 + 1, 0, none⟩), .pointer (some ⟨b3 + 1 + 1 + 1, 0, none⟩), .pointer (some ⟨b3 + 1 + 1 + 1 + 1, 0, none⟩), .pointer (some ⟨s', 0, none⟩), undef, undef, .pointer (some ⟨h, 0, none⟩), .agg #[.int .i64 v.kind, .int .i64 v.n, .string v.s], .func (.func 68) #[] #[.pointer (some ⟨c1, 0, none⟩), .pointer (some ⟨c1 + 1, 0, none⟩)], (atV L k).val, undef, undef, undef, undef, undef, undef, undef, undef, undef, undef, undef], defers := [] })
    (fun k W => W.alloc (.cells #[.int .i64 (atV L k).kind, .int .i64 (atV L k).n, .string (atV L k).s] 33))
    (fun k s => [valB s (atV L k)])
    (fun k W Rs _ S => S.alloc _) ?assign ?body ?done ?stop
  case assign =>
    intro l k W K hk hK
    simp only [V.val] at hK
    simp only [orderE, V.val]
    gi_wp2
    exact hK
  case body =>
    rintro l k q _ Gs W3 hk ⟨hno, rfl⟩ S3
    have HNO := Lib.hid (And.intro hk hno)
    clear hno hk S2 IT hB
    obtain ⟨x, hx⟩ : ∃ gx_, (atV L k) = gx_ := ⟨_, rfl⟩
    rw [hx] at S3
    have HX := Lib.hid hx
    obtain ⟨g, hg⟩ : ∃ gx_, (H.get x (keyS s hs)) = gx_ := ⟨_, rfl⟩
    have HGT := Lib.hid hg
    obtain ⟨base, hbase⟩ : ∃ base : List Res, base = valB q x :: boxR (b3 + 1 + 1 + 1 + 1) (.cells #[.bool false] 4) :: zeroB (b3 + 1 + 1 + 1) :: boxR (b3 + 1 + 1) (.cells #[.string s] 9) :: boxR (b3 + 1) (.cells #[.int .i64 v.kind, .int .i64 v.n, .string v.s] 33) :: boxR b3 (.cells #[.pointer (some ⟨h, 0, none⟩)] 28) :: (RE ++ (orderF c1 (c1 + 1) v h H ++ Gs)) := ⟨_, rfl⟩
    replace S3 : Sep w base W3 := by rw [hbase]; exact S3
    have KG : Hid (∀ W (Q : List Res), Sep w (Q ++ base) W → Calls Try.prog 35 #[.pointer (some ⟨h, 0, none⟩), .agg #[.int .i64 x.kind, .int .i64 x.n, .string x.s], .agg #[.int .i64 3, .int .i64 0, .string s]] W fun e W' => e = .returned (.tuple #[.agg #[.int .i64 (g.getD V.zero).kind, .int .i64 (g.getD V.zero).n, .string (g.getD V.zero).s], .bool g.isSome]) ∧ Sep w (Q ++ base) W') := Lib.hid fun W Q S => by
      have h1 : (Q ++ base)[Q.length + (6 + RE.length + 2)]? = some (heapR h H) := by
        rw [List.getElem?_append_right (by omega), hbase, Nat.add_sub_cancel_left]
        have : 6 + RE.length + 2 = RE.length + 2 + 1 + 1 + 1 + 1 + 1 + 1 := by omega
        rw [this]
        simp only [List.getElem?_cons_succ]
        rw [List.getElem?_append_right (by omega)]
        simp
      have := S.get_ _ h1 x (keyS s hs)
      rw [hg] at this
      exact this.mono fun e W' ⟨e1, e2, _⟩ => ⟨e1, e2⟩
    have KK : Hid (∀ W (Q : List Res), Sep w (Q ++ base) W → W.cell? ⟨b3, 0, none⟩ = some (.pointer (some ⟨h, 0, none⟩)) ∧ W.cell? ⟨b3 + 1 + 1, 0, none⟩ = some (.string s) ∧ W.cell? ⟨q, 0, none⟩ = some (.int .i64 x.kind) ∧ W.cell? ⟨q, 1, none⟩ = some (.int .i64 x.n) ∧ W.cell? ⟨q, 2, none⟩ = some (.string x.s)) := Lib.hid fun W Q S => by
      subst hbase
      have i0 := S.box (b := q) (o := .cells #[.int .i64 x.kind, .int .i64 x.n, .string x.s] 33) Q.length (by simp)
      have i1 := S.box (b := b3) (o := .cells #[.pointer (some ⟨h, 0, none⟩)] 28) (Q.length + 5) (by simp)
      have i2 := S.box (b := b3 + 1 + 1) (o := .cells #[.string s] 9) (Q.length + 3) (by simp)
      exact ⟨cellAt i1 0 rfl, cellAt i2 0 rfl, cellAt i0 0 rfl, cellAt i0 1 rfl, cellAt i0 2 rfl⟩
    have HBASE := Lib.hid hbase
    obtain ⟨k1, k2, k3, k4, k5⟩ := KK.out W3 [] S3
    clear hbase hx hg
    have S4 := Lib.hid S3
    clear S3
    simp only [V.val]
    gi_upto_region 3 with fail
    gi_cut [9, 10] from 15 (fun s9 s10 wx => ∃ qx, s9 = .pointer (some ⟨qx, 0, none⟩) ∧ s10 = .bool g.isSome ∧ Sep w (valB qx (g.getD V.zero) :: base) wx)
    case first =>
      have T0 : Sep w ([] ++ base) _ := S4.out.drew
      refine wpIn_regionI (fun W => ∃ Q : List Res, Sep w (Q ++ base) W) (by kernel_rfl) ?_
      refine wpAnyI_take 0 (v := _) (by kernel_rfl) (by simp only [List.getElem?_toArray, List.getElem?_cons_succ, List.getElem?_cons_zero]; rfl) (by kernel_rfl) (by kernel_rfl) (by kernel_rfl) (by exact fun _ _ _ h => h) (.inl ⟨by rfl, by (intro w hSw; obtain ⟨Q, SQ⟩ := hSw; obtain ⟨s1, s2, s3, s4, s5⟩ := KK.out _ Q SQ; (go_simp; try rfl))⟩) (fun _ => rfl) ⟨_, T0⟩ ?_
      simp only [Act.put, List.setIfInBounds_toArray, List.set_cons_zero, List.set_cons_succ]
      refine wpAnyI_take 1 (v := _) (by kernel_rfl) (by simp only [List.getElem?_toArray, List.getElem?_cons_succ, List.getElem?_cons_zero]; rfl) (by kernel_rfl) (by kernel_rfl) (by kernel_rfl) (by exact fun _ _ _ h => h) (.inl ⟨by rfl, by (intro w hSw; obtain ⟨Q, SQ⟩ := hSw; obtain ⟨s1, s2, s3, s4, s5⟩ := KK.out _ Q SQ; (go_simp; try rfl))⟩) (fun _ => rfl) ⟨_, T0⟩ ?_
      simp only [Act.put, List.setIfInBounds_toArray, List.set_cons_zero, List.set_cons_succ]
      refine wpAnyI_take 2 (v := _) (by kernel_rfl) (by simp only [List.getElem?_toArray, List.getElem?_cons_succ, List.getElem?_cons_zero]; rfl) (by kernel_rfl) (by kernel_rfl) (by kernel_rfl) (by exact fun _ _ _ h => h) (.inl ⟨by rfl, by (intro w hSw; obtain ⟨Q, SQ⟩ := hSw; obtain ⟨s1, s2, s3, s4, s5⟩ := KK.out _ Q SQ; (go_simp; try rfl))⟩) (fun _ => rfl) ⟨_, T0⟩ ?_
      simp only [Act.put, List.setIfInBounds_toArray, List.set_cons_zero, List.set_cons_succ]
      refine wpAnyI_all (rs := [3, 8]) (by kernel_rfl) (by simp) ?_
      intro i hi
      simp only [List.mem_cons, List.not_mem_nil, or_false] at hi
      rcases hi with rfl | rfl
      · refine wpI_step (by simp only [List.getElem?_toArray, List.getElem?_cons_succ, List.getElem?_cons_zero]; rfl) (fun K hK => ?_)
        go_simp
        gi_wp2_with (refine ⟨trivial, (callsIn_wide.2 (key_ok _ s)).mono ?_⟩; rintro e w1 ⟨rfl, b1⟩)
        have T1 := Sep.later T0 b1
        refine hK _ _ ⟨_, T1⟩ (fun _ => ?_)
        clear hK K
        refine wpAnyI_all (rs := [4, 8]) (by kernel_rfl) (by simp) ?_
        intro i hi
        simp only [List.mem_cons, List.not_mem_nil, or_false] at hi
        rcases hi with rfl | rfl
        · refine wpI_step (by simp only [List.getElem?_toArray, List.getElem?_cons_succ, List.getElem?_cons_zero]; rfl) (fun K hK => ?_)
          go_simp
          gi_wp2_with (refine ⟨trivial, (callsIn_wide.2 (KG.out _ _ T1)).mono ?_⟩; rintro e w2 ⟨rfl, T2⟩)
          refine hK _ _ ⟨_, T2⟩ (fun _ => ?_)
          clear hK K
          refine wpAnyI_take 5 (v := _) (by kernel_rfl) (by simp only [List.getElem?_toArray, List.getElem?_cons_succ, List.getElem?_cons_zero]; rfl) (by kernel_rfl) (by kernel_rfl) (by kernel_rfl) (by exact fun _ _ _ h => h) (.inl ⟨by rfl, by (intro w hSw; obtain ⟨Q, SQ⟩ := hSw; obtain ⟨s1, s2, s3, s4, s5⟩ := KK.out _ Q SQ; (go_simp; try rfl))⟩) (fun _ => rfl) ⟨_, T2⟩ ?_
          simp only [Act.put, List.setIfInBounds_toArray, List.set_cons_zero, List.set_cons_succ]
          refine wpAnyI_take 6 (v := _) (by kernel_rfl) (by simp only [List.getElem?_toArray, List.getElem?_cons_succ, List.getElem?_cons_zero]; rfl) (by kernel_rfl) (by kernel_rfl) (by kernel_rfl) (by exact fun _ _ _ h => h) (.inl ⟨by rfl, by (intro w hSw; obtain ⟨Q, SQ⟩ := hSw; obtain ⟨s1, s2, s3, s4, s5⟩ := KK.out _ Q SQ; (go_simp; try rfl))⟩) (fun _ => rfl) ⟨_, T2⟩ ?_
          simp only [Act.put, List.setIfInBounds_toArray, List.set_cons_zero, List.set_cons_succ]
          refine wpAnyI_take 7 (v := _) (by kernel_rfl) (by simp only [List.getElem?_toArray, List.getElem?_cons_succ, List.getElem?_cons_zero]; rfl) (by kernel_rfl) (by kernel_rfl) (by kernel_rfl) (by exact fun _ _ _ h => h) (.inl ⟨by rfl, by (intro w hSw; obtain ⟨Q, SQ⟩ := hSw; obtain ⟨s1, s2, s3, s4, s5⟩ := KK.out _ Q SQ; (go_simp; try rfl))⟩) (fun _ => rfl) ⟨_, T2⟩ ?_
          simp only [Act.put, List.setIfInBounds_toArray, List.set_cons_zero, List.set_cons_succ]
          refine wpAnyI_all (rs := [8]) (by kernel_rfl) (by simp) ?_
          intro i hi
          simp only [List.mem_cons, List.not_mem_nil, or_false] at hi
          rcases hi with rfl
          · refine wpI_step (by simp only [List.getElem?_toArray, List.getElem?_cons_succ, List.getElem?_cons_zero]; rfl) (fun K hK => ?_)
            go_simp
            have T3 : Sep w ([zeroB _] ++ base) _ := Sep.alloc T2 (.cells #[.int .i64 0, .int .i64 0, .string ⟨#[]⟩] 33)
            try simp only [size_drew] at T3
            refine hK _ _ ⟨_, T3⟩ (fun _ => ?_)
            clear hK K
            refine wpAnyI_all (rs := [9]) (by kernel_rfl) (by simp) ?_
            intro i hi
            simp only [List.mem_cons, List.not_mem_nil, or_false] at hi
            rcases hi with rfl
            · refine wpI_step (by simp only [List.getElem?_toArray, List.getElem?_cons_succ, List.getElem?_cons_zero]; rfl) (fun K hK => ?_)
              have hz := valBlkO (x := V.zero) (T3.box 0 rfl)
              simp only [V.zero, size_drew] at hz
              obtain ⟨v0, v1, v2, v3, v4, v5⟩ := hz
              go_simp
              (try gi_wp2_with fail)
              first | (refine hK _ _ ⟨[valB _ (g.getD V.zero)], (Sep.setZero T3 (g.getD V.zero))⟩ (fun hS4 => ?_); have T4 : Sep w ([valB _ (g.getD V.zero)] ++ base) _ := Sep.setZero T3 (g.getD V.zero)) | (refine hK _ _ ⟨[valB _ (g.getD V.zero)], (Sep.alloc T2 (.cells #[.int .i64 (g.getD V.zero).kind, .int .i64 (g.getD V.zero).n, .string (g.getD V.zero).s] 33))⟩ (fun hS4 => ?_); have T4 : Sep w ([valB _ (g.getD V.zero)] ++ base) _ := Sep.alloc T2 (.cells #[.int .i64 (g.getD V.zero).kind, .int .i64 (g.getD V.zero).n, .string (g.getD V.zero).s] 33))
              clear hK K
              refine wpAnyI_take 10 (v := _) (by kernel_rfl) (by simp only [List.getElem?_toArray, List.getElem?_cons_succ, List.getElem?_cons_zero]; rfl) (by kernel_rfl) (by kernel_rfl) (by kernel_rfl) (by exact fun _ _ _ h => h) (.inl ⟨by rfl, by (intro w hSw; obtain ⟨Q, SQ⟩ := hSw; obtain ⟨s1, s2, s3, s4, s5⟩ := KK.out _ Q SQ; (go_simp; try rfl))⟩) (fun _ => rfl) ⟨_, T4⟩ ?_
              simp only [Act.put, List.setIfInBounds_toArray, List.set_cons_zero, List.set_cons_succ]
              refine wpAnyI_done (by kernel_rfl) ?_ _
              gi_wp2_with fail
              gi_meet
              exact ⟨_, rfl, rfl, T4⟩
        · refine wpI_step (by simp only [List.getElem?_toArray, List.getElem?_cons_succ, List.getElem?_cons_zero]; rfl) (fun K hK => ?_)
          go_simp
          have T5 : Sep w ([zeroB _] ++ base) _ := Sep.alloc T1 (.cells #[.int .i64 0, .int .i64 0, .string ⟨#[]⟩] 33)
          try simp only [size_drew] at T5
          refine hK _ _ ⟨_, T5⟩ (fun _ => ?_)
          clear hK K
          refine wpAnyI_all (rs := [4]) (by kernel_rfl) (by simp) ?_
          intro i hi
          simp only [List.mem_cons, List.not_mem_nil, or_false] at hi
          rcases hi with rfl
          · refine wpI_step (by simp only [List.getElem?_toArray, List.getElem?_cons_succ, List.getElem?_cons_zero]; rfl) (fun K hK => ?_)
            go_simp
            gi_wp2_with (refine ⟨trivial, (callsIn_wide.2 (KG.out _ _ T5)).mono ?_⟩; rintro e w6 ⟨rfl, T6⟩)
            refine hK _ _ ⟨_, T6⟩ (fun _ => ?_)
            clear hK K
            refine wpAnyI_take 5 (v := _) (by kernel_rfl) (by simp only [List.getElem?_toArray, List.getElem?_cons_succ, List.getElem?_cons_zero]; rfl) (by kernel_rfl) (by kernel_rfl) (by kernel_rfl) (by exact fun _ _ _ h => h) (.inl ⟨by rfl, by (intro w hSw; obtain ⟨Q, SQ⟩ := hSw; obtain ⟨s1, s2, s3, s4, s5⟩ := KK.out _ Q SQ; (go_simp; try rfl))⟩) (fun _ => rfl) ⟨_, T6⟩ ?_
            simp only [Act.put, List.setIfInBounds_toArray, List.set_cons_zero, List.set_cons_succ]
            refine wpAnyI_take 6 (v := _) (by kernel_rfl) (by simp only [List.getElem?_toArray, List.getElem?_cons_succ, List.getElem?_cons_zero]; rfl) (by kernel_rfl) (by kernel_rfl) (by kernel_rfl) (by exact fun _ _ _ h => h) (.inl ⟨by rfl, by (intro w hSw; obtain ⟨Q, SQ⟩ := hSw; obtain ⟨s1, s2, s3, s4, s5⟩ := KK.out _ Q SQ; (go_simp; try rfl))⟩) (fun _ => rfl) ⟨_, T6⟩ ?_
            simp only [Act.put, List.setIfInBounds_toArray, List.set_cons_zero, List.set_cons_succ]
            refine wpAnyI_take 7 (v := _) (by kernel_rfl) (by simp only [List.getElem?_toArray, List.getElem?_cons_succ, List.getElem?_cons_zero]; rfl) (by kernel_rfl) (by kernel_rfl) (by kernel_rfl) (by exact fun _ _ _ h => h) (.inl ⟨by rfl, by (intro w hSw; obtain ⟨Q, SQ⟩ := hSw; obtain ⟨s1, s2, s3, s4, s5⟩ := KK.out _ Q SQ; (go_simp; try rfl))⟩) (fun _ => rfl) ⟨_, T6⟩ ?_
            simp only [Act.put, List.setIfInBounds_toArray, List.set_cons_zero, List.set_cons_succ]
            refine wpAnyI_all (rs := [9]) (by kernel_rfl) (by simp) ?_
            intro i hi
            simp only [List.mem_cons, List.not_mem_nil, or_false] at hi
            rcases hi with rfl
            · refine wpI_step (by simp only [List.getElem?_toArray, List.getElem?_cons_succ, List.getElem?_cons_zero]; rfl) (fun K hK => ?_)
              have hz := valBlkO (x := V.zero) (T6.box 0 rfl)
              simp only [V.zero, size_drew] at hz
              obtain ⟨v0, v1, v2, v3, v4, v5⟩ := hz
              go_simp
              (try gi_wp2_with fail)
              first | (refine hK _ _ ⟨[valB _ (g.getD V.zero)], (Sep.setZero T6 (g.getD V.zero))⟩ (fun hS7 => ?_); have T7 : Sep w ([valB _ (g.getD V.zero)] ++ base) _ := Sep.setZero T6 (g.getD V.zero)) | (refine hK _ _ ⟨[valB _ (g.getD V.zero)], (Sep.alloc T5 (.cells #[.int .i64 (g.getD V.zero).kind, .int .i64 (g.getD V.zero).n, .string (g.getD V.zero).s] 33))⟩ (fun hS7 => ?_); have T7 : Sep w ([valB _ (g.getD V.zero)] ++ base) _ := Sep.alloc T5 (.cells #[.int .i64 (g.getD V.zero).kind, .int .i64 (g.getD V.zero).n, .string (g.getD V.zero).s] 33))
              clear hK K
              refine wpAnyI_take 10 (v := _) (by kernel_rfl) (by simp only [List.getElem?_toArray, List.getElem?_cons_succ, List.getElem?_cons_zero]; rfl) (by kernel_rfl) (by kernel_rfl) (by kernel_rfl) (by exact fun _ _ _ h => h) (.inl ⟨by rfl, by (intro w hSw; obtain ⟨Q, SQ⟩ := hSw; obtain ⟨s1, s2, s3, s4, s5⟩ := KK.out _ Q SQ; (go_simp; try rfl))⟩) (fun _ => rfl) ⟨_, T7⟩ ?_
              simp only [Act.put, List.setIfInBounds_toArray, List.set_cons_zero, List.set_cons_succ]
              refine wpAnyI_done (by kernel_rfl) ?_ _
              gi_wp2_with fail
              gi_meet
              exact ⟨_, rfl, rfl, T7⟩
      · refine wpI_step (by simp only [List.getElem?_toArray, List.getElem?_cons_succ, List.getElem?_cons_zero]; rfl) (fun K hK => ?_)
        go_simp
        have T8 : Sep w ([zeroB _] ++ base) _ := Sep.alloc T0 (.cells #[.int .i64 0, .int .i64 0, .string ⟨#[]⟩] 33)
        try simp only [size_drew] at T8
        refine hK _ _ ⟨_, T8⟩ (fun _ => ?_)
        clear hK K
        refine wpAnyI_all (rs := [3]) (by kernel_rfl) (by simp) ?_
        intro i hi
        simp only [List.mem_cons, List.not_mem_nil, or_false] at hi
        rcases hi with rfl
        · refine wpI_step (by simp only [List.getElem?_toArray, List.getElem?_cons_succ, List.getElem?_cons_zero]; rfl) (fun K hK => ?_)
          go_simp
          gi_wp2_with (refine ⟨trivial, (callsIn_wide.2 (key_ok _ s)).mono ?_⟩; rintro e w9 ⟨rfl, b9⟩)
          have T9 := Sep.later T8 b9
          refine hK _ _ ⟨_, T9⟩ (fun _ => ?_)
          clear hK K
          refine wpAnyI_all (rs := [4]) (by kernel_rfl) (by simp) ?_
          intro i hi
          simp only [List.mem_cons, List.not_mem_nil, or_false] at hi
          rcases hi with rfl
          · refine wpI_step (by simp only [List.getElem?_toArray, List.getElem?_cons_succ, List.getElem?_cons_zero]; rfl) (fun K hK => ?_)
            go_simp
            gi_wp2_with (refine ⟨trivial, (callsIn_wide.2 (KG.out _ _ T9)).mono ?_⟩; rintro e w10 ⟨rfl, T10⟩)
            refine hK _ _ ⟨_, T10⟩ (fun _ => ?_)
            clear hK K
            refine wpAnyI_take 5 (v := _) (by kernel_rfl) (by simp only [List.getElem?_toArray, List.getElem?_cons_succ, List.getElem?_cons_zero]; rfl) (by kernel_rfl) (by kernel_rfl) (by kernel_rfl) (by exact fun _ _ _ h => h) (.inl ⟨by rfl, by (intro w hSw; obtain ⟨Q, SQ⟩ := hSw; obtain ⟨s1, s2, s3, s4, s5⟩ := KK.out _ Q SQ; (go_simp; try rfl))⟩) (fun _ => rfl) ⟨_, T10⟩ ?_
            simp only [Act.put, List.setIfInBounds_toArray, List.set_cons_zero, List.set_cons_succ]
            refine wpAnyI_take 6 (v := _) (by kernel_rfl) (by simp only [List.getElem?_toArray, List.getElem?_cons_succ, List.getElem?_cons_zero]; rfl) (by kernel_rfl) (by kernel_rfl) (by kernel_rfl) (by exact fun _ _ _ h => h) (.inl ⟨by rfl, by (intro w hSw; obtain ⟨Q, SQ⟩ := hSw; obtain ⟨s1, s2, s3, s4, s5⟩ := KK.out _ Q SQ; (go_simp; try rfl))⟩) (fun _ => rfl) ⟨_, T10⟩ ?_
            simp only [Act.put, List.setIfInBounds_toArray, List.set_cons_zero, List.set_cons_succ]
            refine wpAnyI_take 7 (v := _) (by kernel_rfl) (by simp only [List.getElem?_toArray, List.getElem?_cons_succ, List.getElem?_cons_zero]; rfl) (by kernel_rfl) (by kernel_rfl) (by kernel_rfl) (by exact fun _ _ _ h => h) (.inl ⟨by rfl, by (intro w hSw; obtain ⟨Q, SQ⟩ := hSw; obtain ⟨s1, s2, s3, s4, s5⟩ := KK.out _ Q SQ; (go_simp; try rfl))⟩) (fun _ => rfl) ⟨_, T10⟩ ?_
            simp only [Act.put, List.setIfInBounds_toArray, List.set_cons_zero, List.set_cons_succ]
            refine wpAnyI_all (rs := [9]) (by kernel_rfl) (by simp) ?_
            intro i hi
            simp only [List.mem_cons, List.not_mem_nil, or_false] at hi
            rcases hi with rfl
            · refine wpI_step (by simp only [List.getElem?_toArray, List.getElem?_cons_succ, List.getElem?_cons_zero]; rfl) (fun K hK => ?_)
              have hz := valBlkO (x := V.zero) (T10.box 0 rfl)
              simp only [V.zero, size_drew] at hz
              obtain ⟨v0, v1, v2, v3, v4, v5⟩ := hz
              go_simp
              (try gi_wp2_with fail)
              first | (refine hK _ _ ⟨[valB _ (g.getD V.zero)], (Sep.setZero T10 (g.getD V.zero))⟩ (fun hS11 => ?_); have T11 : Sep w ([valB _ (g.getD V.zero)] ++ base) _ := Sep.setZero T10 (g.getD V.zero)) | (refine hK _ _ ⟨[valB _ (g.getD V.zero)], (Sep.alloc T9 (.cells #[.int .i64 (g.getD V.zero).kind, .int .i64 (g.getD V.zero).n, .string (g.getD V.zero).s] 33))⟩ (fun hS11 => ?_); have T11 : Sep w ([valB _ (g.getD V.zero)] ++ base) _ := Sep.alloc T9 (.cells #[.int .i64 (g.getD V.zero).kind, .int .i64 (g.getD V.zero).n, .string (g.getD V.zero).s] 33))
              clear hK K
              refine wpAnyI_take 10 (v := _) (by kernel_rfl) (by simp only [List.getElem?_toArray, List.getElem?_cons_succ, List.getElem?_cons_zero]; rfl) (by kernel_rfl) (by kernel_rfl) (by kernel_rfl) (by exact fun _ _ _ h => h) (.inl ⟨by rfl, by (intro w hSw; obtain ⟨Q, SQ⟩ := hSw; obtain ⟨s1, s2, s3, s4, s5⟩ := KK.out _ Q SQ; (go_simp; try rfl))⟩) (fun _ => rfl) ⟨_, T11⟩ ?_
              simp only [Act.put, List.setIfInBounds_toArray, List.set_cons_zero, List.set_cons_succ]
              refine wpAnyI_done (by kernel_rfl) ?_ _
              gi_wp2_with fail
              gi_meet
              exact ⟨_, rfl, rfl, T11⟩
    case rest =>
      obtain ⟨qx, rfl, rfl, S5⟩ := hcut
      rw [HBASE.out] at S5
      clear k1 k2 k3 k4 k5 S4 KG KK
      cases hg : g with
      | none =>
        have S6 := Lib.hid S5.tail.tail
        have HGN := Lib.hid (HGT.out.trans hg)
        clear S5 hg
        gi_wp2
        refine ⟨_, ⟨fun j hj => ?_, rfl⟩, S6.out⟩
        by_cases hjk : j = k
        · subst hjk; rw [HX.out]; exact HGN.out
        · exact HNO.out.2 j (by omega)
      | some x0 =>
        rw [hg] at S5
        simp only [Option.getD_some] at S5
        have c0 := cellAt (S5.box 0 rfl) 0 (v := .int .i64 x0.kind) rfl
        have c1' := cellAt (S5.box 0 rfl) 1 (v := .int .i64 x0.n) rfl
        have c2 := cellAt (S5.box 0 rfl) 2 (v := .string x0.s) rfl
        obtain ⟨d0, d1, d2, d3, d4, d5⟩ := valBlkO (x := V.zero) (S5.box 3 rfl)
        simp only [V.zero] at d0 d1 d2
        have e0 := frozenAt (S5.box 2 rfl) 0
        have e1 := cellAt (S5.box 2 rfl) 0 (v := .bool false) rfl
        have T1 := S5.setBox (cs := #[.int .i64 0, .int .i64 0, .string ⟨#[]⟩]) (t := 33) 3 rfl 0 (.int .i64 x0.kind)
        have T2 := T1.setBox (cs := #[.int .i64 x0.kind, .int .i64 0, .string ⟨#[]⟩]) (t := 33) 3 rfl 1 (.int .i64 x0.n)
        have T3 := T2.setBox (cs := #[.int .i64 x0.kind, .int .i64 x0.n, .string ⟨#[]⟩]) (t := 33) 3 rfl 2 (.string x0.s)
        have T4 := T3.setBox (cs := #[.bool false]) (t := 4) 2 rfl 0 (.bool true)
        have T5 := Lib.hid T4.tail.tail
        have HF := Lib.hid (find_some (H := H) (v := v) (key := keyS s hs) (x := x0) (k := k) (by rw [HL.out]; exact HNO.out.1) (by rw [HL.out]; exact HNO.out.2) (by rw [HL.out, HX.out]; exact HGT.out.trans hg))
        clear S5 T1 T2 T3 T4 hg
        gi_wp2
        refine ⟨_, ⟨rfl, x0, HF.out, rfl⟩, ?_⟩
        have T6 : Sep w ((boxR (b3 + 1 + 1 + 1 + 1) (.cells #[.bool true] 4)) :: valB (b3 + 1 + 1 + 1) x0 :: boxR (b3 + 1 + 1) (.cells #[.string s] 9) :: boxR (b3 + 1) (.cells #[.int .i64 v.kind, .int .i64 v.n, .string v.s] 33) :: boxR b3 (.cells #[.pointer (some ⟨h, 0, none⟩)] 28) :: (RE ++ (orderF c1 (c1 + 1) v h H ++ Gs))) _ := T5.out
        refine T6.sub (.cons_cons _ (.cons_cons _ (.cons _ (.cons _ (.cons _ ?_)))))
        show ((RE ++ [heapR h H]) ++ Gs).Sublist (RE ++ (orderF c1 (c1 + 1) v h H ++ Gs))
        rw [List.append_assoc]
        exact (List.Sublist.refl RE).append (List.Sublist.append (.cons _ (.cons _ (List.Sublist.refl _))) (List.Sublist.refl _))
  case done =>
    rintro _ W3 ⟨hno, rfl⟩ S3
    have HF := Lib.hid (find_none (H := H) (v := v) (key := keyS s hs) (by rw [HL.out]; exact hno))
    replace S3 : Sep w (boxR (c1 + 2) (.deferred (some [])) :: boxR (b3 + 1 + 1 + 1 + 1) (.cells #[.bool false] 4) :: zeroB (b3 + 1 + 1 + 1) :: boxR (b3 + 1 + 1) (.cells #[.string s] 9) :: boxR (b3 + 1) (.cells #[.int .i64 v.kind, .int .i64 v.n, .string v.s] 33) :: boxR b3 (.cells #[.pointer (some ⟨h, 0, none⟩)] 28) :: (RE ++ orderF c1 (c1 + 1) v h H)) W3 := S3
    obtain ⟨d0, d1, d2, d3, d4, d5⟩ := valBlkO (x := V.zero) (S3.box 2 rfl)
    simp only [V.zero] at d0 d1 d2
    have e0 := frozenAt (S3.box 1 rfl) 0
    have e1 := cellAt (S3.box 1 rfl) 0 (v := .bool false) rfl
    have T1 := S3.setBox (cs := #[.int .i64 0, .int .i64 0, .string ⟨#[]⟩]) (t := 33) 2 rfl 0 (.int .i64 0)
    have T2 := T1.setBox (cs := #[.int .i64 0, .int .i64 0, .string ⟨#[]⟩]) (t := 33) 2 rfl 1 (.int .i64 0)
    have T3 := T2.setBox (cs := #[.int .i64 0, .int .i64 0, .string ⟨#[]⟩]) (t := 33) 2 rfl 2 (.string ⟨#[]⟩)
    have T4 := T3.setBox (cs := #[.bool false]) (t := 4) 1 rfl 0 (.bool false)
    have q0 := cellAt (T4.box 2 rfl) 0 (v := .int .i64 0) rfl
    have q1 := cellAt (T4.box 2 rfl) 1 (v := .int .i64 0) rfl
    have q2 := cellAt (T4.box 2 rfl) 2 (v := .string ⟨#[]⟩) rfl
    have q3 := cellAt (T4.box 1 rfl) 0 (v := .bool false) rfl
    have S4 := Lib.hid T4
    clear hno S3 S2 IT hB T1 T2 T3 T4
    gi_wp2
    refine ⟨by simp, .inl ⟨_, _, rfl, run_takeDeferred (S4.out.box 0 rfl), ?_⟩⟩
    have S5 := S4.out.putObj 0 rfl (.deferred none)
    have r0 := cellAt (S5.box 2 rfl) 0 (v := .int .i64 0) rfl
    have r1 := cellAt (S5.box 2 rfl) 1 (v := .int .i64 0) rfl
    have r2 := cellAt (S5.box 2 rfl) 2 (v := .string ⟨#[]⟩) rfl
    have r3 := cellAt (S5.box 1 rfl) 0 (v := .bool false) rfl
    rw [HF.out]
    refine ⟨.tuple #[.agg #[.int .i64 0, .int .i64 0, .string ⟨#[]⟩], .bool false], by simp [results, Try.results16, go_sem, r0, r1, r2, r3], rfl, ?_⟩
    have S6 : Sep w (boxR (c1 + 2) (.deferred none) :: boxR (b3 + 1 + 1 + 1 + 1) (.cells #[.bool false] 4) :: zeroB (b3 + 1 + 1 + 1) :: boxR (b3 + 1 + 1) (.cells #[.string s] 9) :: boxR (b3 + 1) (.cells #[.int .i64 v.kind, .int .i64 v.n, .string v.s] 33) :: boxR b3 (.cells #[.pointer (some ⟨h, 0, none⟩)] 28) :: (RE ++ orderF c1 (c1 + 1) v h H)) _ := S5
    exact (HI2.out _ _ _ (zeroB 0) (zeroB 0) [] (S6.sub (.cons _ (.cons_cons _ (.cons_cons _ (.cons _ (.cons _ (.cons _ ((List.Sublist.refl RE).append (.cons _ (.cons _ (List.Sublist.refl _)))))))))))).tail.tail
  case stop =>
    rintro _ k _ W3 hk ⟨rfl, x, hx, rfl⟩ S3
    have S4 := Lib.hid S3
    have HF := Lib.hid hx
    clear S3 S2 IT hB hx
    gi_wp2
    refine ⟨by simp, .inl ⟨_, _, rfl, run_takeDeferred (S4.out.box 0 rfl), ?_⟩⟩
    have S5 := S4.out.putObj 0 rfl (.deferred none)
    have r0 := cellAt (S5.box 2 rfl) 0 (v := .int .i64 x.kind) rfl
    have r1 := cellAt (S5.box 2 rfl) 1 (v := .int .i64 x.n) rfl
    have r2 := cellAt (S5.box 2 rfl) 2 (v := .string x.s) rfl
    have r3 := cellAt (S5.box 1 rfl) 0 (v := .bool true) rfl
    rw [HF.out]
    refine ⟨.tuple #[.agg #[.int .i64 x.kind, .int .i64 x.n, .string x.s], .bool true], by simp [results, Try.results16, go_sem, r0, r1, r2, r3], rfl, ?_⟩
    exact (HI2.out _ _ _ (zeroB 0) (zeroB 0) [] S5.tail).tail.tail
end
end Go.Proofs.Ytkocenlglodklaa
