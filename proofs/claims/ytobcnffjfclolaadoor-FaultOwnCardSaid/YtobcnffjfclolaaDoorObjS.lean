/- Objects: Sub. -/
import Derived.Test.YtobcnffjfclolaaDoorObjO
import Derived.Test.YtobcnffjfclolaaDoorLocal
namespace Go.Proofs.YtobcnffjfclolaaDoor
set_option linter.unusedSimpArgs false
open Go.RowKit
set_option linter.unusedVariables false
attribute [local go_sem] Oper.semAt_some
theorem eql_vals (W : World) (x y : V) (b : Bool) (hb : decide (x = y) = b) : (binOp .eql 31 (.agg #[.int .i64 x.kind, .int .i64 x.n, .string x.s]) (.agg #[.int .i64 y.kind, .int .i64 y.n, .string y.s])).run Tryd.prog W = .ok (.bool b) W := by
  go_simp
  have hx := V.eq_iff x y
  subst hb
  by_cases h1 : x.kind = y.kind
  · by_cases h2 : x.n = y.n
    · by_cases h3 : x.s.toList = y.s.toList
      · simp [h1, h2, h3, hx]
      · simp [h1, h2, h3, hx]
    · simp [h1, h2, hx]
  · simp [h1, hx]
/-- Does v come of u? -/
def HeapM.subM (H : HeapM) (v u : V) : Bool := H.isClass u && decide (u.asRef ∈ H.order v)
theorem sub_none {H : HeapM} {v u : V} (h : ∀ j, j < (H.order v).length → (H.isClass u && decide (atV (H.order v) j = u.asRef)) = false) : H.subM v u = false := by
  unfold HeapM.subM
  cases hc : H.isClass u with
  | false => rfl
  | true =>
    simp only [Bool.true_and, decide_eq_false_iff_not]
    intro hm
    obtain ⟨j, hj, e⟩ := List.getElem_of_mem hm
    have := h j hj
    rw [hc] at this
    unfold atV at this
    simp [hj, e] at this
theorem sub_some {H : HeapM} {v u : V} {k : Nat} (hk : k < (H.order v).length) (h : (H.isClass u && decide (atV (H.order v) k = u.asRef)) = true) : H.subM v u = true := by
  unfold HeapM.subM
  rw [Bool.and_eq_true, decide_eq_true_eq] at h ⊢
  refine ⟨h.1, ?_⟩
  have := h.2
  unfold atV at this
  rw [List.getElem?_eq_getElem hk] at this
  rw [← this]
  exact List.getElem_mem hk
section
variable {w W : World} {Rs : List Res} {h : Nat} {H : HeapM}
set_option maxRecDepth 100000 in
set_option maxHeartbeats 3200000 in
theorem sub_ok (S : Sep w Rs W) (i : Nat) (hi : Rs[i]? = some (heapR h H)) {N : Nat} (G : H.Good N) (hN : N ≤ 4000000) (v u : V) :
    Calls Tryd.prog 44 #[.pointer (some ⟨h, 0, none⟩), v.val, u.val] W fun e W' => e = .returned (.bool (H.subM v u)) ∧ Sep w Rs W' := by
  obtain ⟨b3, hb3⟩ : ∃ gx_, (W.heap.size) = gx_ := ⟨_, rfl⟩
  have S1 := (((S.alloc (.cells #[.pointer (some ⟨h, 0, none⟩)] 28)).alloc (.cells #[.int .i64 v.kind, .int .i64 v.n, .string v.s] 31)).alloc (.cells #[.int .i64 u.kind, .int .i64 u.n, .string u.s] 31)).alloc (.cells #[.bool false] 4)
  simp only [World.size_alloc, hb3] at S1
  have HS := Lib.hid S1
  have HI := Lib.hid hi
  have HG := Lib.hid (And.intro G hN)
  clear S S1 hi G hN
  refine (callsIn_wide (n := 9)).1 ?_
  refine callsIn_of_wp_marks Tryd.func44 rfl trivial ?_ rfl
  simp only [Tryd.ntmps44, List.size_toArray, List.length_cons, List.length_nil, Nat.reduceAdd, Nat.reduceSub, Array.replicate_succ, Array.replicate_zero, List.push_toArray, List.append_toArray, List.nil_append, List.cons_append]
  simp only [V.val]
  gi_wp2_with fail
  obtain ⟨W1, hW1⟩ : ∃ gx_, ((((W.alloc (.cells #[.pointer (some ⟨h, 0, none⟩)] 28)).alloc (.cells #[.int .i64 v.kind, .int .i64 v.n, .string v.s] 31)).alloc (.cells #[.int .i64 u.kind, .int .i64 u.n, .string u.s] 31)).alloc (.cells #[.bool false] 4)) = gx_ := ⟨_, rfl⟩
  rw [hW1] at HS ⊢
  have C := order_ok (h := h) W1 v
  simp only [V.val] at C
  replace C := Lib.hid C
  clear hW1 hb3
  refine ⟨trivial, (callsIn_wide.2 C.out).mono ?_⟩
  rintro e W2 ⟨rfl, hW2⟩
  have S2 := HS.out.orderF (i + 4) (by simpa using HI.out) v
  rw [← hW2] at S2
  obtain ⟨c1, hc1⟩ : ∃ gx_, (W1.heap.size) = gx_ := ⟨_, rfl⟩
  rw [hc1] at S2 ⊢
  have hB : W2.heap.size = c1 + 2 := by rw [hW2]; simp [hc1]
  clear hW2 hc1 C HS
  have IT := Lib.hid (order_iter (w := w) (h := h) (H := H) c1 (c1 + 1) v HG.out.1 HG.out.2)
  have HI2 : Hid (∀ W (A : Res), Sep w (A :: (Rs.eraseIdx i ++ [heapR h H])) W → Sep w (A :: Rs) W) := Lib.hid fun W A S => S.perm ((pull_perm HI.out).symm.cons _)
  obtain ⟨RE, hRE⟩ : ∃ gx_, (Rs.eraseIdx i) = gx_ := ⟨_, rfl⟩
  replace S2 : Sep w ((boxR (b3 + 1 + 1 + 1) (.cells #[.bool false] 4) :: valB (b3 + 1 + 1) u :: valB (b3 + 1) v :: boxR b3 (.cells #[.pointer (some ⟨h, 0, none⟩)] 28) :: RE) ++ orderF c1 (c1 + 1) v h H) W2 := by rw [← hRE]; exact S2
  rw [hRE] at HI2
  clear hRE HI
  obtain ⟨L, hL⟩ : ∃ gx_, (H.order v) = gx_ := ⟨_, rfl⟩
  rw [hL] at IT
  have HL := Lib.hid hL
  replace S2 := Lib.hid S2
  clear hL
  gi_wp2_with fail
  refine range_sep (w := w) (B := c1 + 2) hB (hg := rfl) enters_order (fun _ => rfl)
    (fun k R => (∀ j, j < k → (H.isClass u && decide (atV L j = u.asRef)) = false) ∧ R = boxR (b3 + 1 + 1 + 1) (.cells #[.bool false] 4) :: valB (b3 + 1 + 1) u :: valB (b3 + 1) v :: boxR b3 (.cells #[.pointer (some ⟨h, 0, none⟩)] 28) :: RE)
    (fun c k R => c = .ret ∧ H.subM v u = true ∧ R = boxR (b3 + 1 + 1 + 1) (.cells #[.bool true] 4) :: (RE ++ [heapR h H])) (n := L.length) (encs := orderE L) IT.out
    ⟨fun j hj => by omega, rfl⟩ S2.out
    (fun k s' => { tmps := #[.pointer (some ⟨h, 0, none⟩), .agg #[.int .i64 v.kind, .int .i64 v.n, .string v.s], .agg #[.int .i64 u.kind, .int .i64 u.n, .string u.s], .pointer (some ⟨b3, 0, none⟩), .pointer (some ⟨b3 + 1, 0, none⟩), .pointer (some ⟨b3 + 1 + 1, 0, none⟩), .pointer (some ⟨b3 + 1 + 1 + 1, 0, none⟩), .pointer (some ⟨s', 0, none⟩), .pointer (some ⟨h, 0, none⟩), .agg #[.int .i64 v.kind, .int .i64 v.n, .string v.s], .func (.func 77) #[] #[.pointer (some ⟨c1, 0, none⟩), .pointer (some ⟨c1 + 1, 0, none⟩)], (atV L k).val, undef, undef, undef, undef, undef, undef, undef, undef, undef], defers := [] })
    (fun k W => W.alloc (.cells #[.int .i64 (atV L k).kind, .int .i64 (atV L k).n, .string (atV L k).s] 31))
    (fun k s => [valB s (atV L k)])
    (fun k W Rs _ S => S.alloc _) ?assign ?body ?done ?stop
  case assign =>
    intro l k W K hk hK
    simp only [V.val] at hK
    simp only [orderE, V.val]
    gi_wp2
    exact hK
  case body =>
    rintro l k q _ Gs W3 hk ⟨hno, rfl⟩ S3
    have HNO := Lib.hid (And.intro hk hno)
    clear hno hk S2 IT hB
    obtain ⟨x, hx⟩ : ∃ gx_, (atV L k) = gx_ := ⟨_, rfl⟩
    rw [hx] at S3
    have HX := Lib.hid hx
    obtain ⟨kb, hkb⟩ : ∃ gx_, (H.isClass u) = gx_ := ⟨_, rfl⟩
    have HKB := Lib.hid hkb
    obtain ⟨bq, hbq⟩ : ∃ gx_, (decide (x = u.asRef)) = gx_ := ⟨_, rfl⟩
    have HBQ := Lib.hid hbq
    have EQ : ∀ W, (binOp .eql 31 (.agg #[.int .i64 x.kind, .int .i64 x.n, .string x.s]) (.agg #[.int .i64 4, .int .i64 u.n, .string ⟨#[]⟩])).run Tryd.prog W = .ok (.bool bq) W := fun W => eql_vals W x u.asRef bq hbq
    obtain ⟨base, hbase⟩ : ∃ base : List Res, base = valB q x :: boxR (b3 + 1 + 1 + 1) (.cells #[.bool false] 4) :: valB (b3 + 1 + 1) u :: valB (b3 + 1) v :: boxR b3 (.cells #[.pointer (some ⟨h, 0, none⟩)] 28) :: (RE ++ (orderF c1 (c1 + 1) v h H ++ Gs)) := ⟨_, rfl⟩
    replace S3 : Sep w base W3 := by rw [hbase]; exact S3
    have KC : Hid (∀ W, Sep w ([] ++ base) W → Calls Tryd.prog 48 #[.pointer (some ⟨h, 0, none⟩), .agg #[.int .i64 u.kind, .int .i64 u.n, .string u.s]] W fun e W' => e = .returned (.bool kb) ∧ Sep w ([] ++ base) W') := Lib.hid fun W S => by
      have h1 : ([] ++ base)[5 + RE.length + 2]? = some (heapR h H) := by
        rw [List.nil_append, hbase]
        have : 5 + RE.length + 2 = RE.length + 2 + 1 + 1 + 1 + 1 + 1 := by omega
        rw [this]
        simp only [List.getElem?_cons_succ]
        rw [List.getElem?_append_right (by omega)]
        simp
      have := isClass_ok S _ h1 u
      rw [HKB.out] at this
      exact this
    have KR : Hid (∀ W, Sep w ([] ++ base) W → Calls Tryd.prog 53 #[.agg #[.int .i64 u.kind, .int .i64 u.n, .string u.s]] W fun e W' => e = .returned (.agg #[.int .i64 4, .int .i64 u.n, .string ⟨#[]⟩]) ∧ Sep w ([] ++ base) W') := Lib.hid fun W T => (oref_ok W u).mono fun e W' ⟨e1, e2⟩ => ⟨e1, T.later e2⟩
    have KK : Hid (∀ W (Q : List Res), Sep w (Q ++ base) W → W.cell? ⟨b3, 0, none⟩ = some (.pointer (some ⟨h, 0, none⟩)) ∧ (W.cell? ⟨b3 + 1 + 1, 0, none⟩ = some (.int .i64 u.kind) ∧ W.cell? ⟨b3 + 1 + 1, 1, none⟩ = some (.int .i64 u.n) ∧ W.cell? ⟨b3 + 1 + 1, 2, none⟩ = some (.string u.s)) ∧ W.cell? ⟨q, 0, none⟩ = some (.int .i64 x.kind) ∧ W.cell? ⟨q, 1, none⟩ = some (.int .i64 x.n) ∧ W.cell? ⟨q, 2, none⟩ = some (.string x.s)) := Lib.hid fun W Q S => by
      subst hbase
      have i0 := S.box (b := q) (o := .cells #[.int .i64 x.kind, .int .i64 x.n, .string x.s] 31) Q.length (by simp)
      have i1 := S.box (b := b3) (o := .cells #[.pointer (some ⟨h, 0, none⟩)] 28) (Q.length + 4) (by simp)
      have i2 := S.box (b := b3 + 1 + 1) (o := .cells #[.int .i64 u.kind, .int .i64 u.n, .string u.s] 31) (Q.length + 2) (by simp)
      exact ⟨cellAt i1 0 rfl, ⟨cellAt i2 0 rfl, cellAt i2 1 rfl, cellAt i2 2 rfl⟩, cellAt i0 0 rfl, cellAt i0 1 rfl, cellAt i0 2 rfl⟩
    have HBASE := Lib.hid hbase
    obtain ⟨k1, ⟨k2, k3, k4⟩, k5, k6, k7⟩ := KK.out W3 [] S3
    clear hbase hx hkb hbq
    have S4 := Lib.hid S3
    clear S3
    simp only [V.val]
    gi_upto_region 3 with fail
    gi_cut [20] from 12 (fun s20 wx => s20 = .bool (kb && bq) ∧ Sep w base wx)
    case first =>
      cases kb with
      | true =>
        have T0 : Sep w ([] ++ base) _ := S4.out.drew
        refine wpIn_regionI (fun W => ∃ Q : List Res, Sep w (Q ++ base) W) (by kernel_rfl) ?_
        refine wpAnyI_take 0 (v := _) (by kernel_rfl) (by simp only [List.getElem?_toArray, List.getElem?_cons_succ, List.getElem?_cons_zero]; rfl) (by kernel_rfl) (by kernel_rfl) (by kernel_rfl) (by exact fun _ _ _ h => h) (.inl ⟨by rfl, by (intro w hSw; obtain ⟨Q, SQ⟩ := hSw; obtain ⟨s1, ⟨s2, s3, s4⟩, s5, s6, s7⟩ := KK.out _ Q SQ; (go_simp; try rfl))⟩) (fun _ => rfl) ⟨[], T0⟩ ?_
        simp only [Act.put, List.setIfInBounds_toArray, List.set_cons_zero, List.set_cons_succ]
        refine wpAnyI_take 1 (v := _) (by kernel_rfl) (by simp only [List.getElem?_toArray, List.getElem?_cons_succ, List.getElem?_cons_zero]; rfl) (by kernel_rfl) (by kernel_rfl) (by kernel_rfl) (by exact fun _ _ _ h => h) (.inl ⟨by rfl, by (intro w hSw; obtain ⟨Q, SQ⟩ := hSw; obtain ⟨s1, ⟨s2, s3, s4⟩, s5, s6, s7⟩ := KK.out _ Q SQ; (go_simp; try rfl))⟩) (fun _ => rfl) ⟨[], T0⟩ ?_
        simp only [Act.put, List.setIfInBounds_toArray, List.set_cons_zero, List.set_cons_succ]
        refine wpAnyI_all (rs := [2]) (by kernel_rfl) (by simp) ?_
        intro i hi
        simp only [List.mem_cons, List.not_mem_nil, or_false] at hi
        rcases hi with rfl
        · refine wpI_step (by simp only [List.getElem?_toArray, List.getElem?_cons_succ, List.getElem?_cons_zero]; rfl) (fun K hK => ?_)
          go_simp
          gi_wp2_with (refine ⟨trivial, (callsIn_wide.2 (KC.out _ T0)).mono ?_⟩; rintro e w1 ⟨rfl, T1⟩)
          refine hK _ _ ⟨[], T1⟩ (fun _ => ?_)
          clear hK K
          refine wpAnyI_take 3 (v := _) (by kernel_rfl) (by simp only [List.getElem?_toArray, List.getElem?_cons_succ, List.getElem?_cons_zero]; rfl) (by kernel_rfl) (by kernel_rfl) (by kernel_rfl) (by exact fun _ _ _ h => h) (.inl ⟨by rfl, by (intro w hSw; obtain ⟨Q, SQ⟩ := hSw; obtain ⟨s1, ⟨s2, s3, s4⟩, s5, s6, s7⟩ := KK.out _ Q SQ; (go_simp; try rfl))⟩) (fun _ => rfl) ⟨[], T1⟩ ?_
          simp only [Act.put, List.setIfInBounds_toArray, List.set_cons_zero, List.set_cons_succ]
          refine wpAnyI_take 4 (v := _) (by kernel_rfl) (by simp only [List.getElem?_toArray, List.getElem?_cons_succ, List.getElem?_cons_zero]; rfl) (by kernel_rfl) (by kernel_rfl) (by kernel_rfl) (by exact fun _ _ _ h => h) (.inl ⟨by rfl, by (intro w hSw; obtain ⟨Q, SQ⟩ := hSw; obtain ⟨s1, ⟨s2, s3, s4⟩, s5, s6, s7⟩ := KK.out _ Q SQ; (go_simp; try rfl))⟩) (fun _ => rfl) ⟨[], T1⟩ ?_
          simp only [Act.put, List.setIfInBounds_toArray, List.set_cons_zero, List.set_cons_succ]
          refine wpAnyI_take 5 (v := _) (by kernel_rfl) (by simp only [List.getElem?_toArray, List.getElem?_cons_succ, List.getElem?_cons_zero]; rfl) (by kernel_rfl) (by kernel_rfl) (by kernel_rfl) (by exact fun _ _ _ h => h) (.inl ⟨by rfl, by (intro w hSw; obtain ⟨Q, SQ⟩ := hSw; obtain ⟨s1, ⟨s2, s3, s4⟩, s5, s6, s7⟩ := KK.out _ Q SQ; (go_simp; try rfl))⟩) (fun _ => rfl) ⟨[], T1⟩ ?_
          simp only [Act.put, List.setIfInBounds_toArray, List.set_cons_zero, List.set_cons_succ]
          refine wpAnyI_all (rs := [6]) (by kernel_rfl) (by simp) ?_
          intro i hi
          simp only [List.mem_cons, List.not_mem_nil, or_false] at hi
          rcases hi with rfl
          · refine wpI_step (by simp only [List.getElem?_toArray, List.getElem?_cons_succ, List.getElem?_cons_zero]; rfl) (fun K hK => ?_)
            go_simp
            gi_wp2_with (refine ⟨trivial, (callsIn_wide.2 (KR.out _ T1)).mono ?_⟩; rintro e w2 ⟨rfl, T2⟩)
            refine hK _ _ ⟨[], T2⟩ (fun _ => ?_)
            clear hK K
            refine wpAnyI_take 7 (v := _) (by kernel_rfl) (by simp only [List.getElem?_toArray, List.getElem?_cons_succ, List.getElem?_cons_zero]; rfl) (by kernel_rfl) (by kernel_rfl) (by kernel_rfl) (by exact fun _ _ _ h => h) (.inl ⟨by rfl, by (intro w hSw; obtain ⟨Q, SQ⟩ := hSw; obtain ⟨s1, ⟨s2, s3, s4⟩, s5, s6, s7⟩ := KK.out _ Q SQ; (go_simp; try rfl))⟩) (fun _ => rfl) ⟨[], T2⟩ ?_
            simp only [Act.put, List.setIfInBounds_toArray, List.set_cons_zero, List.set_cons_succ]
            refine wpAnyI_take 8 (v := _) (by kernel_rfl) (by simp only [List.getElem?_toArray, List.getElem?_cons_succ, List.getElem?_cons_zero]; rfl) (by kernel_rfl) (by kernel_rfl) (by kernel_rfl) (by exact fun _ _ _ h => h) (.inl ⟨by rfl, by (intro w hSw; obtain ⟨Q, SQ⟩ := hSw; obtain ⟨s1, ⟨s2, s3, s4⟩, s5, s6, s7⟩ := KK.out _ Q SQ; (go_simp; try rfl))⟩) (fun _ => rfl) ⟨[], T2⟩ ?_
            simp only [Act.put, List.setIfInBounds_toArray, List.set_cons_zero, List.set_cons_succ]
            refine wpAnyI_done (by kernel_rfl) ?_ _
            gi_wp2_with fail
            gi_meet
            exact ⟨rfl, T2⟩
      | false =>
        have T0 : Sep w ([] ++ base) _ := S4.out.drew
        refine wpIn_regionI (fun W => ∃ Q : List Res, Sep w (Q ++ base) W) (by kernel_rfl) ?_
        refine wpAnyI_take 0 (v := _) (by kernel_rfl) (by simp only [List.getElem?_toArray, List.getElem?_cons_succ, List.getElem?_cons_zero]; rfl) (by kernel_rfl) (by kernel_rfl) (by kernel_rfl) (by exact fun _ _ _ h => h) (.inl ⟨by rfl, by (intro w hSw; obtain ⟨Q, SQ⟩ := hSw; obtain ⟨s1, ⟨s2, s3, s4⟩, s5, s6, s7⟩ := KK.out _ Q SQ; (go_simp; try rfl))⟩) (fun _ => rfl) ⟨[], T0⟩ ?_
        simp only [Act.put, List.setIfInBounds_toArray, List.set_cons_zero, List.set_cons_succ]
        refine wpAnyI_take 1 (v := _) (by kernel_rfl) (by simp only [List.getElem?_toArray, List.getElem?_cons_succ, List.getElem?_cons_zero]; rfl) (by kernel_rfl) (by kernel_rfl) (by kernel_rfl) (by exact fun _ _ _ h => h) (.inl ⟨by rfl, by (intro w hSw; obtain ⟨Q, SQ⟩ := hSw; obtain ⟨s1, ⟨s2, s3, s4⟩, s5, s6, s7⟩ := KK.out _ Q SQ; (go_simp; try rfl))⟩) (fun _ => rfl) ⟨[], T0⟩ ?_
        simp only [Act.put, List.setIfInBounds_toArray, List.set_cons_zero, List.set_cons_succ]
        refine wpAnyI_all (rs := [2]) (by kernel_rfl) (by simp) ?_
        intro i hi
        simp only [List.mem_cons, List.not_mem_nil, or_false] at hi
        rcases hi with rfl
        · refine wpI_step (by simp only [List.getElem?_toArray, List.getElem?_cons_succ, List.getElem?_cons_zero]; rfl) (fun K hK => ?_)
          go_simp
          gi_wp2_with (refine ⟨trivial, (callsIn_wide.2 (KC.out _ T0)).mono ?_⟩; rintro e w1 ⟨rfl, T1⟩)
          refine hK _ _ ⟨[], T1⟩ (fun _ => ?_)
          clear hK K
          refine wpAnyI_take 3 (v := _) (by kernel_rfl) (by simp only [List.getElem?_toArray, List.getElem?_cons_succ, List.getElem?_cons_zero]; rfl) (by kernel_rfl) (by kernel_rfl) (by kernel_rfl) (by exact fun _ _ _ h => h) (.inl ⟨by rfl, by (intro w hSw; obtain ⟨Q, SQ⟩ := hSw; obtain ⟨s1, ⟨s2, s3, s4⟩, s5, s6, s7⟩ := KK.out _ Q SQ; (go_simp; try rfl))⟩) (fun _ => rfl) ⟨[], T1⟩ ?_
          simp only [Act.put, List.setIfInBounds_toArray, List.set_cons_zero, List.set_cons_succ]
          refine wpAnyI_take 4 (v := undef) (by kernel_rfl) (by simp only [List.getElem?_toArray, List.getElem?_cons_succ, List.getElem?_cons_zero]; rfl) (by kernel_rfl) (by kernel_rfl) (by kernel_rfl) (by exact fun _ _ _ h => h) (.inr ⟨by rfl, rfl⟩) (fun _ => rfl) ⟨[], T1⟩ ?_
          simp only [Act.put, List.setIfInBounds_toArray, List.set_cons_zero, List.set_cons_succ]
          refine wpAnyI_take 5 (v := undef) (by kernel_rfl) (by simp only [List.getElem?_toArray, List.getElem?_cons_succ, List.getElem?_cons_zero]; rfl) (by kernel_rfl) (by kernel_rfl) (by kernel_rfl) (by exact fun _ _ _ h => h) (.inr ⟨by rfl, rfl⟩) (fun _ => rfl) ⟨[], T1⟩ ?_
          simp only [Act.put, List.setIfInBounds_toArray, List.set_cons_zero, List.set_cons_succ]
          refine wpAnyI_all (rs := [6]) (by kernel_rfl) (by simp) ?_
          intro i hi
          simp only [List.mem_cons, List.not_mem_nil, or_false] at hi
          rcases hi with rfl
          · refine wpI_step (by simp only [List.getElem?_toArray, List.getElem?_cons_succ, List.getElem?_cons_zero]; rfl) (fun K hK => ?_)
            go_simp
            (first | refine ⟨trivial, ?_⟩ | refine ⟨fun _ _ => trivial, ?_⟩ | skip)
            refine hK _ _ ⟨[], T1⟩ (fun _ => ?_)
            clear hK K
            refine wpAnyI_take 7 (v := undef) (by kernel_rfl) (by simp only [List.getElem?_toArray, List.getElem?_cons_succ, List.getElem?_cons_zero]; rfl) (by kernel_rfl) (by kernel_rfl) (by kernel_rfl) (by exact fun _ _ _ h => h) (.inr ⟨by rfl, rfl⟩) (fun _ => rfl) ⟨[], T1⟩ ?_
            simp only [Act.put, List.setIfInBounds_toArray, List.set_cons_zero, List.set_cons_succ]
            refine wpAnyI_take 8 (v := _) (by kernel_rfl) (by simp only [List.getElem?_toArray, List.getElem?_cons_succ, List.getElem?_cons_zero]; rfl) (by kernel_rfl) (by kernel_rfl) (by kernel_rfl) (by exact fun _ _ _ h => h) (.inl ⟨by rfl, by (intro w hSw; obtain ⟨Q, SQ⟩ := hSw; obtain ⟨s1, ⟨s2, s3, s4⟩, s5, s6, s7⟩ := KK.out _ Q SQ; (go_simp; try rfl))⟩) (fun _ => rfl) ⟨[], T1⟩ ?_
            simp only [Act.put, List.setIfInBounds_toArray, List.set_cons_zero, List.set_cons_succ]
            refine wpAnyI_done (by kernel_rfl) ?_ _
            gi_wp2_with fail
            gi_meet
            exact ⟨rfl, T1⟩
    case rest =>
      obtain ⟨rfl, S5⟩ := hcut
      rw [HBASE.out] at S5
      clear k1 k2 k3 k4 k5 k6 k7 S4 KC KR KK EQ
      cases hg : (kb && bq) with
      | false =>
        have S6 := Lib.hid S5.tail
        have HGN := Lib.hid hg
        clear S5 hg
        gi_wp2
        refine ⟨_, ⟨fun j hj => ?_, rfl⟩, S6.out⟩
        by_cases hjk : j = k
        · subst hjk; rw [HX.out, HKB.out, HBQ.out]; exact HGN.out
        · exact HNO.out.2 j (by omega)
      | true =>
        have HF := Lib.hid (sub_some (H := H) (v := v) (u := u) (k := k) (by rw [HL.out]; exact HNO.out.1) (by rw [HL.out, HX.out, HKB.out, HBQ.out]; exact hg))
        have e0 := frozenAt (S5.box 1 rfl) 0
        have e1 := cellAt (S5.box 1 rfl) 0 (v := .bool false) rfl
        have T4 := S5.setBox (cs := #[.bool false]) (t := 4) 1 rfl 0 (.bool true)
        have T5 := Lib.hid T4.tail
        clear S5 T4 hg
        gi_wp2
        refine ⟨_, ⟨rfl, HF.out, rfl⟩, ?_⟩
        have T6 : Sep w ((boxR (b3 + 1 + 1 + 1) (.cells #[.bool true] 4)) :: valB (b3 + 1 + 1) u :: valB (b3 + 1) v :: boxR b3 (.cells #[.pointer (some ⟨h, 0, none⟩)] 28) :: (RE ++ (orderF c1 (c1 + 1) v h H ++ Gs))) _ := T5.out
        refine T6.sub (.cons_cons _ (.cons _ (.cons _ (.cons _ ?_))))
        show ((RE ++ [heapR h H]) ++ Gs).Sublist (RE ++ (orderF c1 (c1 + 1) v h H ++ Gs))
        rw [List.append_assoc]
        exact (List.Sublist.refl RE).append (List.Sublist.append (.cons _ (.cons _ (List.Sublist.refl _))) (List.Sublist.refl _))
  case done =>
    rintro _ W3 ⟨hno, rfl⟩ S3
    have HF := Lib.hid (sub_none (H := H) (v := v) (u := u) (by rw [HL.out]; exact hno))
    replace S3 : Sep w (boxR (c1 + 2) (.deferred (some [])) :: boxR (b3 + 1 + 1 + 1) (.cells #[.bool false] 4) :: valB (b3 + 1 + 1) u :: valB (b3 + 1) v :: boxR b3 (.cells #[.pointer (some ⟨h, 0, none⟩)] 28) :: (RE ++ orderF c1 (c1 + 1) v h H)) W3 := S3
    have e0 := frozenAt (S3.box 1 rfl) 0
    have e1 := cellAt (S3.box 1 rfl) 0 (v := .bool false) rfl
    have T4 := S3.setBox (cs := #[.bool false]) (t := 4) 1 rfl 0 (.bool false)
    have S4 := Lib.hid T4
    clear hno S3 S2 IT hB T4
    gi_wp2
    refine ⟨by simp, .inl ⟨_, _, rfl, run_takeDeferred (S4.out.box 0 rfl), ?_⟩⟩
    have S5 := S4.out.putObj 0 rfl (.deferred none)
    have r3 := cellAt (S5.box 1 rfl) 0 (v := .bool false) rfl
    rw [HF.out]
    refine ⟨.bool false, by simp [results, Tryd.results44, go_sem, r3], rfl, ?_⟩
    have S6 : Sep w (boxR (c1 + 2) (.deferred none) :: boxR (b3 + 1 + 1 + 1) (.cells #[.bool false] 4) :: valB (b3 + 1 + 1) u :: valB (b3 + 1) v :: boxR b3 (.cells #[.pointer (some ⟨h, 0, none⟩)] 28) :: (RE ++ orderF c1 (c1 + 1) v h H)) _ := S5
    exact (HI2.out _ _ (S6.sub (.cons _ (.cons_cons _ (.cons _ (.cons _ (.cons _ ((List.Sublist.refl RE).append (.cons _ (.cons _ (List.Sublist.refl _))))))))))).tail
  case stop =>
    rintro _ k _ W3 hk ⟨rfl, hx, rfl⟩ S3
    have S4 := Lib.hid S3
    have HF := Lib.hid hx
    clear S3 S2 IT hB hx
    gi_wp2
    refine ⟨by simp, .inl ⟨_, _, rfl, run_takeDeferred (S4.out.box 0 rfl), ?_⟩⟩
    have S5 := S4.out.putObj 0 rfl (.deferred none)
    have r3 := cellAt (S5.box 1 rfl) 0 (v := .bool true) rfl
    rw [HF.out]
    refine ⟨.bool true, by simp [results, Tryd.results44, go_sem, r3], rfl, ?_⟩
    exact (HI2.out _ _ S5.tail).tail
end
end Go.Proofs.YtobcnffjfclolaaDoor
