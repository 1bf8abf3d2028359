/- The reference's heap beside all else; its collection. -/
import Derived.Test.YtjinabglachglaaRef6
import Derived.Test.YtjinabglachglaaLaw13
namespace Go.Proofs.Ytjinabglachglaa
set_option linter.unusedSimpArgs false
open Go.RowKit
set_option linter.unusedVariables false
section
variable {w W : World} {Rs : List Res} {r : Nat} {H : HeapM} {N : Nat}
theorem Sep.yKind (S : Sep w Rs W) (i : Nat) (hi : Rs[i]? = some (refR r H)) (v : V) : Calls Try.prog 65 #[.pointer (some ⟨r, 0, none⟩), v.val] W fun e W' => e = .returned (.int .i64 (H.kind v)) ∧ Sep w Rs W' := by
  obtain ⟨F, h1, _⟩ := S.get i hi
  exact (ref_kind W r v h1).mono fun e W' ⟨e1, e2⟩ => ⟨e1, S.later e2⟩
theorem Sep.yName (S : Sep w Rs W) (i : Nat) (hi : Rs[i]? = some (refR r H)) (v : V) : Calls Try.prog 68 #[.pointer (some ⟨r, 0, none⟩), v.val] W fun e W' => e = .returned (.string (H.name v)) ∧ Sep w Rs W' := by
  obtain ⟨F, h1, _⟩ := S.get i hi
  exact (ref_name W r v h1).mono fun e W' ⟨e1, e2⟩ => ⟨e1, S.later e2⟩
theorem Sep.yNum (S : Sep w Rs W) (i : Nat) (hi : Rs[i]? = some (refR r H)) (v : V) : Calls Try.prog 66 #[.pointer (some ⟨r, 0, none⟩), v.val] W fun e W' => e = .returned (.int .i64 (H.num v)) ∧ Sep w Rs W' := by
  obtain ⟨F, h1, _⟩ := S.get i hi
  exact (ref_num W r v h1).mono fun e W' ⟨e1, e2⟩ => ⟨e1, S.later e2⟩
theorem Sep.yItems (S : Sep w Rs W) (i : Nat) (hi : Rs[i]? = some (refR r H)) (G : H.Good N) (hN : N ≤ 4000000) (v : V) : Calls Try.prog 69 #[.pointer (some ⟨r, 0, none⟩), v.val] W fun e W' => ∃ sv, e = .returned sv ∧ Sep w (valsR sv (H.items v) :: Rs) W' := by
  obtain ⟨F, h1, _⟩ := S.get i hi
  have := G.items v
  exact (ref_items W r v h1 (by omega)).mono fun e W' ⟨sv, e1, e2, e3, e4⟩ => ⟨sv, e1, S.addRow e4 e2 e3⟩
theorem Sep.yKeys (S : Sep w Rs W) (i : Nat) (hi : Rs[i]? = some (refR r H)) (G : H.Good N) (hN : N ≤ 4000000) (v : V) : Calls Try.prog 71 #[.pointer (some ⟨r, 0, none⟩), v.val] W fun e W' => ∃ sv, e = .returned sv ∧ Sep w (valsR sv ((H.pairs v).map (·.1)) :: Rs) W' := by
  obtain ⟨F, h1, _⟩ := S.get i hi
  obtain ⟨rows, sa, sc, R⟩ := h1.cells
  exact (ref_keys R G hN v).mono fun e W' ⟨sv, e1, e2⟩ => ⟨sv, e1, S.join e2⟩
theorem Sep.yRefs (S : Sep w Rs W) (i : Nat) (hi : Rs[i]? = some (refR r H)) (G : H.Good N) (hN : N ≤ 4000000) (v : V) : Calls Try.prog 70 #[.pointer (some ⟨r, 0, none⟩), v.val] W fun e W' => ∃ sv, e = .returned sv ∧ Sep w (numsR sv (H.refNs v) :: Rs) W' := by
  obtain ⟨F, h1, _⟩ := S.get i hi
  obtain ⟨rows, sa, sc, R⟩ := h1.cells
  exact (ref_refs R G hN v).mono fun e W' ⟨sv, e1, e2⟩ => ⟨sv, e1, S.join e2⟩
theorem Sep.yCount (S : Sep w Rs W) (i : Nat) (hi : Rs[i]? = some (refR r H)) (G : H.Good N) (hN : N ≤ 4000000) (v : V) : Calls Try.prog 74 #[.pointer (some ⟨r, 0, none⟩), v.val] W fun e W' => e = .returned (.int .i64 (H.count v)) ∧ Sep w Rs W' := by
  obtain ⟨F, h1, _⟩ := S.get i hi
  obtain ⟨rows, sa, sc, R⟩ := h1.cells
  exact (ref_count R G hN v).mono fun e W' ⟨e1, e2⟩ => ⟨e1, S.later e2⟩
theorem RefCells.len {w : World} {rows : List RRow} {sa : Option Addr} {sc : Nat} (R : RefCells w r H rows sa sc) (G : H.Good N) (hN : N ≤ 4000000) : rows.length ≤ 4000000 := by
  have h1 : rows.length = H.objs.length := by rw [R.objs]; simp
  have := G.len; omega
theorem Sep.yAll (S : Sep w Rs W) (i : Nat) (hi : Rs[i]? = some (refR r H)) (G : H.Good N) (hN : N ≤ 4000000) : Calls Try.prog 64 #[.pointer (some ⟨r, 0, none⟩)] W fun e W' => ∃ sv, e = .returned sv ∧ Sep w (numsR sv (H.objs.map (·.1)) :: Rs) W' := by
  obtain ⟨F, h1, _⟩ := S.get i hi
  obtain ⟨rows, sa, sc, R⟩ := h1.cells
  exact (ref_all R (R.len G hN)).mono fun e W' ⟨sv, e1, e2⟩ => ⟨sv, e1, S.join e2⟩
theorem Sep.yLive (S : Sep w Rs W) (i : Nat) (hi : Rs[i]? = some (refR r H)) (G : H.Good N) (hN : N ≤ 4000000) (k : Int) : Calls Try.prog 75 #[.pointer (some ⟨r, 0, none⟩), .int .i64 k] W fun e W' => e = .returned (.int .i64 (H.live k)) ∧ Sep w Rs W' := by
  obtain ⟨F, h1, _⟩ := S.get i hi
  obtain ⟨rows, sa, sc, R⟩ := h1.cells
  exact (ref_live R (R.len G hN) k).mono fun e W' ⟨e1, e2⟩ => ⟨e1, S.later e2⟩
theorem Sep.yOf (S : Sep w Rs W) (i : Nat) (hi : Rs[i]? = some (refR r H)) (v : V) : ∃ p : Option Addr, p.isSome = (H.of v).isSome ∧ Calls Try.prog 72 #[.pointer (some ⟨r, 0, none⟩), v.val] W fun e W' => e = .returned (.pointer p) ∧ Sep w Rs W' := by
  obtain ⟨F, h1, _⟩ := S.get i hi
  obtain ⟨rows, sa, sc, R⟩ := h1.cells
  refine ⟨_, ?_, (R.of_ v W (Below.refl _ _)).mono fun e W' ⟨e1, e2⟩ => ⟨e1, S.later e2⟩⟩
  rw [← ofR_some R.objs v]; simp
end
set_option maxRecDepth 100000 in
set_option maxHeartbeats 1600000 in
theorem rin_ok (w : World) (s : Value) (l : List Int) (n : Int) (hs : SeesN w s l) :
    Calls Try.prog 73 #[s, .int .i64 n] w fun e w' => e = .returned (.bool (decide (n ∈ l))) ∧ ∃ q, w' = w.drewN q := by
  obtain ⟨a, ac, rfl, a1, a2, a3⟩ := hs
  have ha : (l.length : Int) ≤ 9223372036854775807 := by unfold maxLen at a2; omega
  have HA := Lib.hid a3
  clear a1 a2 a3
  go_enter Try.func73, Try.ntmps73
  go_wp2
  go_loopw [5] (fun i wr => ∃ k : Nat, k ≤ l.length ∧ i = .int .i64 k ∧ n ∉ l.take k ∧ ∃ q, wr = w.drewN q) (fun i _ => l.length - (intOf i).toNat)
  case atStart => exact ⟨0, by omega, rfl, by simp, 0, rfl⟩
  case round =>
    obtain ⟨k, hk, rfl, hno, nd, rfl⟩ := hrel
    by_cases hlt : k < l.length
    · obtain ⟨x, hx⟩ : ∃ x, l[k]? = some x := ⟨l[k], by simp [hlt]⟩
      obtain ⟨g, o, rfl, hc⟩ : ∃ g o, a = some ⟨g, o, none⟩ ∧ ∀ i n, l[i]? = some n → w.cell? ⟨g, o + i, none⟩ = some (.int .i64 n) := by
        rcases HA.out with h | h
        · subst h; simp at hlt
        · exact h
      have c1 : (w.drewN nd).cell? ⟨g, o + k, none⟩ = some (.int .i64 x) := (World.cell?_drewN w nd _).trans (hc k x hx)
      have hil : (k : Int) < l.length := by omega
      obtain ⟨wx, hwx⟩ : ∃ wx, w.drewN nd = wx := ⟨_, rfl⟩
      rw [hwx] at c1 ⊢
      have HWX := Lib.hid hwx
      by_cases hxy : x = n
      · have hb1 : (x == n) = true := by simp [hxy]
        have HST := Lib.hid (show decide (n ∈ l) = true by rw [decide_eq_true_eq, ← hxy]; exact List.mem_of_getElem? hx)
        clear hxy hx hc hno hwx
        go_wp2
        go_ret
        rw [HST.out]
        exact ⟨rfl, _, HWX.out.symm⟩
      · have hb1 : (x == n) = false := by simpa using hxy
        have HNO : Hid (n ∉ l.take (k + 1)) := Lib.hid (by
          rw [List.take_add_one, hx]; intro hm
          rcases List.mem_append.1 hm with h | h
          · exact hno h
          · simp at h; exact hxy h.symm)
        clear hxy hx hc hno hwx
        go_wp2
        refine ⟨⟨k + 1, by omega, by go_num, HNO.out, _, HWX.out.symm⟩, by simp [intOf]; omega⟩
    · obtain rfl : k = l.length := by omega
      have HNO := Lib.hid (show decide (n ∈ l) = false by rw [List.take_length] at hno; simpa using hno)
      clear hno
      go_wp2
      go_ret
      rw [HNO.out]
      exact ⟨rfl, _, rfl⟩
theorem Sep.valAddr {w W : World} {Rs : List Res} (S : Sep w Rs W) {a : Option Addr} {c : Nat} {L : List V} (i : Nat) (hi : Rs[i]? = some (valsR (.slice a L.length c) L)) {k : Nat} (hk : k < L.length) : ∃ g, a = some ⟨g, 0, none⟩ := by
  rcases (S.row i hi).shape with ⟨h1, h2⟩ | ⟨g, cap, h1, _⟩
  · rw [h2] at hk; simp at hk
  · exact ⟨g, (Value.slice.inj h1).1⟩
theorem Sep.valCells {w W : World} {Rs : List Res} (S : Sep w Rs W) {g c : Nat} {L : List V} (i : Nat) (hi : Rs[i]? = some (valsR (.slice (some ⟨g, 0, none⟩) L.length c) L)) {k : Nat} {v : V} (hv : L[k]? = some v) :
    W.cell? ⟨g, k * 3, none⟩ = some (.int .i64 v.kind) ∧ W.cell? ⟨g, k * 3 + 1, none⟩ = some (.int .i64 v.n) ∧ W.cell? ⟨g, k * 3 + 2, none⟩ = some (.string v.s) :=
  ⟨(S.row i hi).cell (f := V.cells) (m := 3) V.cells_len rfl hv (j := 0) rfl, (S.row i hi).cell (f := V.cells) (m := 3) V.cells_len rfl hv (j := 1) rfl, (S.row i hi).cell (f := V.cells) (m := 3) V.cells_len rfl hv (j := 2) rfl⟩
/-- What is held, as the law takes it. -/
def nearM (H : HeapM) (E : List V) : List Int := (E.filter fun v => (H.of v).isSome).map (·.n)
theorem mem_near {H : HeapM} {E : List V} {n : Int} : n ∈ nearM H E ↔ (getL H.objs n).isSome = true ∧ 0 < cnt E n := by
  unfold nearM
  rw [List.mem_map]
  constructor
  · rintro ⟨v, hv, rfl⟩
    obtain ⟨h1, h2⟩ := List.mem_filter.1 hv
    obtain ⟨o, ho⟩ := Option.isSome_iff_exists.1 h2
    obtain ⟨hk, hg⟩ := HeapM.of_some ho
    exact ⟨by rw [hg]; rfl, cnt_pos.2 ⟨v, h1, hk, rfl⟩⟩
  · rintro ⟨h1, h2⟩
    obtain ⟨v, hv, hk, rfl⟩ := cnt_pos.1 h2
    exact ⟨v, List.mem_filter.2 ⟨hv, by unfold HeapM.of; rw [if_pos hk]; exact h1⟩, rfl⟩
theorem near_snoc (H : HeapM) (E : List V) (v : V) : nearM H (E ++ [v]) = if (H.of v).isSome = true then nearM H E ++ [v.n] else nearM H E := by
  unfold nearM
  rw [List.filter_append, List.map_append]
  by_cases h : (H.of v).isSome = true
  · rw [List.filter_cons_of_pos (p := fun v => (H.of v).isSome) h, if_pos h]; rfl
  · rw [List.filter_cons_of_neg (p := fun v => (H.of v).isSome) h, if_neg h]; simp
theorem near_len (H : HeapM) (E : List V) : (nearM H E).length ≤ E.length := by
  unfold nearM; rw [List.length_map]; exact List.length_filter_le _ _
/-- A list grown by objects' numbers, none twice. -/
def Ext (H : HeapM) (xs l : List Int) : Prop := ∃ s, l = xs ++ s ∧ H.Nums s
theorem Ext.addNew {H : HeapM} {xs : List Int} : ∀ {r l : List Int}, Ext H xs l → (∀ n ∈ r, (getL H.objs n).isSome = true) → Ext H xs (addNew l r)
  | [], _, h, _ => h
  | n :: r, l, h, hr => by
    refine Ext.addNew (r := r) (l := if n ∈ l then l else l ++ [n]) ?_ (fun m hm => hr m (by simp [hm]))
    split
    · exact h
    · rename_i hn
      obtain ⟨s, rfl, hs⟩ := h
      exact ⟨s ++ [n], by simp, hs.add (hr n (by simp)) fun hm => hn (List.mem_append_right _ hm)⟩
theorem Ext.goK (H : HeapM) (xs : List Int) : ∀ k, Ext H xs (H.goK xs k)
  | 0 => ⟨[], by simp [HeapM.goK], by simp, by simp⟩
  | k + 1 => by
    unfold HeapM.goK
    split
    · exact Ext.addNew (Ext.goK H xs k) (H.refsOf_live _)
    · exact Ext.goK H xs k
theorem Ext.len {H : HeapM} {xs l : List Int} (h : Ext H xs l) : l.length ≤ xs.length + H.objs.length := by
  obtain ⟨s, rfl, hs⟩ := h
  have := hs.len
  simp; omega
theorem Ext.ok {H : HeapM} {N : Nat} (G : H.Good N) (hN : N ≤ 4000000) {xs l : List Int} (h : Ext H xs l) (hx : ∀ n ∈ xs, (getL H.objs n).isSome = true) : ∀ n ∈ l, okI n := fun n hn => by
  obtain ⟨s, rfl, hs⟩ := h
  rcases List.mem_append.1 hn with h | h
  · exact HeapM.live_ok G hN (hx n h)
  · exact HeapM.live_ok G hN (hs.2 n h)
section
variable {w W : World} {Rs : List Res} {r : Nat} {H : HeapM} {N : Nat}
theorem Sep.yIn (S : Sep w Rs W) {v : Value} {l : List Int} (j : Nat) (hj : Rs[j]? = some (numsR v l)) (n : Int) :
    Calls Try.prog 73 #[v, .int .i64 n] W fun e W' => e = .returned (.bool (decide (n ∈ l))) ∧ Sep w Rs W' :=
  (rin_ok W v l n (SeesN.of_slIs (S.row j hj))).mono fun e W' ⟨x, q, hq⟩ => ⟨x, by rw [hq]; exact S.drewN q⟩
theorem reached_in (G : H.Good N) {E : List V} {Z : List Int} (hZ : ∀ n, n ∈ Z ↔ H.R E n) : (H.objs.map (·.1)).filter (fun n => decide (n ∈ Z)) = H.reachedM E := by
  unfold HeapM.reachedM
  refine List.filter_congr fun n _ => ?_
  rw [decide_eq_decide]; exact hZ n
theorem filter_step {l : List Int} {k : Nat} {x : Int} (q : Int → Bool) (h : l[k]? = some x) : (l.take (k + 1)).filter q = if q x = true then (l.take k).filter q ++ [x] else (l.take k).filter q := by
  rw [List.take_add_one, h, Option.toList_some, List.filter_append]
  by_cases hq : q x = true
  · rw [if_pos hq, List.filter_cons_of_pos hq]; rfl
  · rw [if_neg hq, List.filter_cons_of_neg hq]; simp
set_option maxRecDepth 100000 in
set_option maxHeartbeats 3200000 in
theorem yReached (S : Sep w Rs W) (q : Nat) (hq : Rs[q]? = some (refR r H)) (F : H.Fit N) (hN : N ≤ 1000000) (a : Option Addr) (c : Nat) (E : List V) (hs : ∀ W', Sep w Rs W' → SeesV W' (.slice a E.length c) E) (hE : E.length ≤ 1000000) :
    Calls Try.prog 40 #[.pointer (some ⟨r, 0, none⟩), .slice a E.length c] W fun e W' => ∃ v, e = .returned v ∧ Sep w (numsR v (H.reachedM E) :: Rs) W' := by
  have HQ := Lib.hid hq
  have HF := Lib.hid (And.intro F hN)
  have HS := Lib.hid hs
  have hEi : (E.length : Int) ≤ 1000000 := by omega
  have hol : H.objs.length ≤ 1000000 := by have := F.G.len; omega
  have HOL := Lib.hid (And.intro hol hE)
  have S0 : Hid (Sep w (numsR (.slice (some ⟨W.heap.size, 0, none⟩) 0 0) (nearM H (E.take 0)) :: Rs) (W.alloc (.cells #[] 2))) := Lib.hid S.madeNums
  clear S hq F hN hs hE hol
  go_enter Try.func40, Try.ntmps40
  go_wp2
  go_loopw [5, 6] (fun nv iv wr => ∃ k : Nat, k ≤ E.length ∧ iv = .int .i64 k ∧ Sep w (numsR nv (nearM H (E.take k)) :: Rs) wr) (fun _ iv _ => E.length - (intOf iv).toNat)
  case atStart => exact ⟨0, by omega, rfl, S0.out⟩
  case round =>
    clear S0
    obtain ⟨k, hk, rfl, S1⟩ := hrel
    obtain ⟨na, nc, rfl⟩ := (S1.row 0 rfl).form
    have hnl : (nearM H (E.take k)).length ≤ 1000000 := by have := near_len H (E.take k); have := HOL.out.2; simp at *; omega
    by_cases hlt : k < E.length
    · have hlti : (k : Int) < E.length := by omega
      obtain ⟨v, hv⟩ : ∃ v, E[k]? = some v := ⟨E[k], by simp [hlt]⟩
      have hnext : nearM H (E.take (k + 1)) = if (H.of v).isSome = true then nearM H (E.take k) ++ [v.n] else nearM H (E.take k) := by
        rw [List.take_add_one, hv, Option.toList_some, near_snoc]
      obtain ⟨M, hM⟩ : ∃ x, (nearM H (E.take k)) = x := ⟨_, rfl⟩
      rw [hM] at S1 hnl hnext ⊢
      have HNX := Lib.hid (And.intro hnext (And.intro hlt hnl))
      obtain ⟨a', c', e0, _, _, h5⟩ := HS.out wr S1.tail
      obtain ⟨rfl, _, rfl⟩ := Value.slice.inj e0
      obtain ⟨g, o, rfl, hcell⟩ := h5.resolve_left (fun h => by rw [h] at hlt; simp at hlt)
      obtain ⟨x0, x1, x2⟩ := hcell k v hv
      obtain ⟨p, hp1, C1⟩ := S1.yOf (q + 1) (by simpa using HQ.out) v
      replace C1 := Lib.hid C1
      have HV := Lib.hid hv
      cases p with
      | none =>
        have hs : ¬ (H.of v).isSome = true := by rw [← hp1]; simp
        have HSM := Lib.hid hs
        clear S1 hnext hlt hnl hM hv hcell h5 e0 hp1 hs
        go_wp2_with fail
        refine (C1.out).mono ?_
        rintro e w2 ⟨rfl, S2⟩
        replace S2 := Lib.hid S2
        clear C1 x0 x1 x2
        go_wp2
        exact ⟨⟨k + 1, by have := HNX.out.2.1; omega, by go_num, by rw [HNX.out.1, if_neg HSM.out]; exact S2.out⟩, by have := HNX.out.2.1; simp [intOf]; omega⟩
      | some p =>
        have hs : (H.of v).isSome = true := by rw [← hp1]; rfl
        have HSM := Lib.hid hs
        clear S1 hnext hlt hnl hM hv hcell h5 e0 hp1 hs
        go_wp2_with fail
        refine (C1.out).mono ?_
        rintro e w2 ⟨rfl, S2⟩
        obtain ⟨a', c', e0, _, _, h5⟩ := HS.out w2 S2.tail
        obtain ⟨e1, _, rfl⟩ := Value.slice.inj e0
        obtain ⟨g', o', e2, hcell⟩ := h5.resolve_left (fun h => by have := HNX.out.2.1; rw [h] at this; simp at this)
        rw [← e1] at e2
        simp only [Option.some.injEq, Addr.mk.injEq, and_true] at e2
        obtain ⟨rfl, rfl⟩ := e2
        obtain ⟨y0, y1, y2⟩ := hcell k v HV.out
        replace S2 := Lib.hid S2
        clear C1 x0 x1 x2 hcell h5 e0 e1
        go_wp2_with (at_builtin; refine wpList_push_sep rfl _ _ rfl (S2.out.later (belowAlloc _ _)) 0 rfl rfl _ _ rfl (cell_of_row _ _ _ _ _ _ (heapAllocNew _ _)) (by have := HNX.out.2.2; omega) ?_)
        intro va vc w3 S3
        replace S3 := Lib.hid S3
        clear S2 y0 y1 y2
        go_wp2
        refine ⟨⟨k + 1, by have := HNX.out.2.1; omega, by go_num, ?_⟩, by have := HNX.out.2.1; simp [intOf]; omega⟩
        rw [HNX.out.1, if_pos HSM.out]; simpa using S3.out
    · have hlti : ¬ (k : Int) < E.length := by omega
      rw [List.take_of_length_le (by omega)] at S1 hnl ⊢
      have hMs : ∀ n, n ∈ nearM H E ↔ (getL H.objs n).isSome = true ∧ 0 < cnt E n := fun n => mem_near
      obtain ⟨M, hM⟩ : ∃ x, (nearM H E) = x := ⟨_, rfl⟩
      rw [hM] at S1 hnl hMs ⊢
      have HM := Lib.hid (And.intro hMs hnl)
      have SS : Hid (Sep w (numsR (.slice na M.length nc) (H.goK M 0) :: Rs) wr) := Lib.hid S1
      clear S1 hlt hM hMs hnl
      go_wp2
      go_loopw [5, 7] (fun nv iv wr => ∃ k : Nat, k ≤ (H.goK M k).length ∧ iv = .int .i64 k ∧ Sep w (numsR nv (H.goK M k) :: Rs) wr) (fun _ iv _ => 2000001 - (intOf iv).toNat)
      case atStart => exact ⟨0, by omega, rfl, SS.out⟩
      case round =>
        clear SS
        obtain ⟨k, hk, rfl, S2⟩ := hrel
        obtain ⟨na, nc, rfl⟩ := (S2.row 0 rfl).form
        have hext := Ext.goK H M k
        have hlive : ∀ n ∈ M, (getL H.objs n).isSome = true := fun n hn => ((HM.out.1 n).1 hn).1
        have hgl : (H.goK M k).length ≤ 2000000 := by have := hext.len; have := HM.out.2; have := HOL.out.1; omega
        have hgok : ∀ n ∈ H.goK M k, okI n := hext.ok HF.out.1.G (by have := HF.out.2; omega) hlive
        have hstep : ∀ n, (H.goK M k)[k]? = some n → H.goK M (k + 1) = addNew (H.goK M k) (H.refsOf n) := fun n hn => by
          conv => lhs; unfold HeapM.goK
          rw [hn]
        have hend : (H.goK M k).length ≤ k → ∀ n, n ∈ H.goK M k ↔ H.R E n := fun h => HeapM.goK_end HM.out.1 h
        obtain ⟨Z, hZ⟩ : ∃ x, (H.goK M k) = x := ⟨_, rfl⟩
        rw [hZ] at S2 hk hext hgl hgok hstep hend ⊢
        have hlZ : (Z.length : Int) ≤ 2000000 := by omega
        by_cases hlt : k < Z.length
        · have hlti : (k : Int) < Z.length := by omega
          obtain ⟨n, hn⟩ : ∃ n, Z[k]? = some n := ⟨Z[k], by simp [hlt]⟩
          have hkn := hgok n (List.mem_of_getElem? hn)
          obtain ⟨zg, rfl⟩ := S2.numAddr 0 rfl hlt
          have cn := S2.numCell 0 rfl hn
          have C1 := S2.yRefs (q + 1) (by simpa using HQ.out) HF.out.1.G (by have := HF.out.2; omega) (V.ref n hkn)
          rw [HeapM.refNs_ref] at C1
          have hlo := HF.out.1.G.refs_len n
          have hOl : ∀ m ∈ H.refsOf n, (getL H.objs m).isSome = true := H.refsOf_live n
          have hst := hstep n hn
          obtain ⟨O, hO⟩ : ∃ x, (H.refsOf n) = x := ⟨_, rfl⟩
          rw [hO] at C1 hlo hOl hst
          have hlO : (O.length : Int) ≤ 1000000 := by have := HF.out.2; omega
          have HO := Lib.hid hOl
          have HZ := Lib.hid (And.intro hst (And.intro hext (And.intro hlt hgl)))
          replace C1 := Lib.hid C1
          clear S2 hext hgl hgok hstep hend hn hk hZ hO hlo hOl hst hlt
          go_wp2_with fail
          refine (C1.out).mono ?_
          rintro e w3 ⟨ov, rfl, S3⟩
          obtain ⟨oa, oc, rfl⟩ := (S3.row 0 rfl).form
          have SS : Hid (Sep w (numsR (.slice oa O.length oc) O :: numsR (.slice (some ⟨zg, 0, none⟩) Z.length nc) (addNew Z (O.take 0)) :: Rs) w3) := Lib.hid S3
          clear C1 S3 cn
          go_wp2
          go_loopw [5, 9] (fun nv iv wr => ∃ j : Nat, j ≤ O.length ∧ iv = .int .i64 j ∧ Sep w (numsR (.slice oa O.length oc) O :: numsR nv (addNew Z (O.take j)) :: Rs) wr) (fun _ iv _ => O.length - (intOf iv).toNat)
          case atStart => exact ⟨0, by omega, rfl, SS.out⟩
          case round =>
            clear SS
            obtain ⟨j, hj, rfl, S4⟩ := hrel
            obtain ⟨ya, yc, rfl⟩ := (S4.row 1 rfl).form
            have hYe := HZ.out.2.1.addNew (r := O.take j) (fun m hm => HO.out m (List.mem_of_mem_take hm))
            have hYl : (addNew Z (O.take j)).length ≤ 2000000 := by have := hYe.len; have := HM.out.2; have := HOL.out.1; omega
            have hsn : ∀ m, O[j]? = some m → addNew Z (O.take (j + 1)) = if m ∈ addNew Z (O.take j) then addNew Z (O.take j) else addNew Z (O.take j) ++ [m] := fun m hm => by
              rw [List.take_add_one, hm, Option.toList_some, addNew_snoc]
            have hfin : O.length ≤ j → addNew Z (O.take j) = H.goK M (k + 1) := fun h => by rw [List.take_of_length_le h, HZ.out.1]
            obtain ⟨Y, hY⟩ : ∃ x, (addNew Z (O.take j)) = x := ⟨_, rfl⟩
            rw [hY] at S4 hYl hsn hfin ⊢
            by_cases hlj : j < O.length
            · have hltj : (j : Int) < O.length := by omega
              obtain ⟨m, hm⟩ : ∃ m, O[j]? = some m := ⟨O[j], by simp [hlj]⟩
              obtain ⟨og, rfl⟩ := S4.numAddr 0 rfl hlj
              have cm := S4.numCell 0 rfl hm
              have I1 := S4.yIn 1 rfl m
              have hs1 := hsn m hm
              by_cases hin : m ∈ Y
              · rw [show decide (m ∈ Y) = true by simpa using hin] at I1
                rw [if_pos hin] at hs1
                have HS1 := Lib.hid (And.intro hs1 hlj)
                replace I1 := Lib.hid I1
                clear S4 hm hYe hYl hsn hfin hY hs1 hin hlj
                go_wp2_with fail
                refine (I1.out).mono ?_
                rintro e w5 ⟨rfl, S5⟩
                replace S5 := Lib.hid S5
                clear I1 cm
                go_wp2
                exact ⟨⟨j + 1, by have := HS1.out.2; omega, by go_num, by rw [HS1.out.1]; exact S5.out⟩, by have := HS1.out.2; simp [intOf]; omega⟩
              · rw [show decide (m ∈ Y) = false by simpa using hin] at I1
                rw [if_neg hin] at hs1
                have HS1 := Lib.hid (And.intro hs1 (And.intro hlj (And.intro hm hYl)))
                replace I1 := Lib.hid I1
                clear S4 hm hYe hYl hsn hfin hY hs1 hin hlj
                go_wp2_with fail
                refine (I1.out).mono ?_
                rintro e w5 ⟨rfl, S5⟩
                have cm2 := S5.numCell 0 rfl HS1.out.2.2.1
                replace S5 := Lib.hid S5
                clear I1 cm
                go_wp2_with (at_builtin; refine wpList_push_sep rfl _ _ rfl (S5.out.later (belowAlloc _ _)) 1 rfl rfl _ _ rfl (cell_of_row _ _ _ _ _ _ (heapAllocNew _ _)) (by have := HS1.out.2.2.2; omega) ?_)
                intro va vc w6 S6
                replace S6 := Lib.hid S6
                clear S5 cm2
                go_wp2
                refine ⟨⟨j + 1, by have := HS1.out.2.1; omega, by go_num, ?_⟩, by have := HS1.out.2.1; simp [intOf]; omega⟩
                rw [HS1.out.1]; simpa using S6.out
            · have hltj : ¬ (j : Int) < O.length := by omega
              have hf := hfin (by omega)
              have S5 := Lib.hid S4.tail
              have HF2 := Lib.hid hf
              clear S4 hYe hYl hsn hfin hY hf hlj
              go_wp2
              refine ⟨⟨k + 1, ?_, by go_num, by rw [← HF2.out]; exact S5.out⟩, by have := HZ.out.2.2; simp [intOf]; omega⟩
              rw [HZ.out.1]
              have := addNew_len Z O
              have := HZ.out.2.2.1
              omega
        · have hlti : ¬ (k : Int) < Z.length := by omega
          have hall := hend (by omega)
          have S3 := S2.madeNums
          have C1 := Lib.hid (S3.yAll (q + 2) (by simpa using HQ.out) HF.out.1.G (by have := HF.out.2; omega))
          have HALL := Lib.hid hall
          clear hlt S2 S3 hext hgl hgok hstep hend hall hZ hk
          go_wp2_with fail
          refine (C1.out).mono ?_
          rintro e w3 ⟨av, rfl, S4⟩
          obtain ⟨aa, ac, rfl⟩ := (S4.row 0 rfl).form
          have hr := reached_in HF.out.1.G HALL.out
          have hkl : (H.objs.map (·.1)).length ≤ 1000000 := by rw [List.length_map]; exact HOL.out.1
          obtain ⟨KL, hKL⟩ : ∃ x, (H.objs.map (·.1)) = x := ⟨_, rfl⟩
          rw [hKL] at S4 hr hkl ⊢
          have hkli : (KL.length : Int) ≤ 1000000 := by omega
          have HR := Lib.hid (And.intro hr hkl)
          obtain ⟨ob, hob⟩ : ∃ ob, wr.heap.size = ob := ⟨_, rfl⟩
          rw [hob] at S4 ⊢
          have SS : Hid (Sep w (numsR (.slice aa KL.length ac) KL :: numsR (.slice (some ⟨ob, 0, none⟩) 0 0) ((KL.take 0).filter fun n => decide (n ∈ Z)) :: numsR (.slice na Z.length nc) Z :: Rs) w3) := Lib.hid S4
          clear S4 C1 hKL hr hkl hob
          go_wp2
          go_loopw [10, 12] (fun ov iv wr => ∃ j : Nat, j ≤ KL.length ∧ iv = .int .i64 j ∧ Sep w (numsR (.slice aa KL.length ac) KL :: numsR ov ((KL.take j).filter fun n => decide (n ∈ Z)) :: numsR (.slice na Z.length nc) Z :: Rs) wr) (fun _ iv _ => KL.length - (intOf iv).toNat)
          case atStart => exact ⟨0, by omega, rfl, SS.out⟩
          case round =>
            clear SS
            obtain ⟨j, hj, rfl, S5⟩ := hrel
            obtain ⟨ya, yc, rfl⟩ := (S5.row 1 rfl).form
            have hYl : ((KL.take j).filter fun n => decide (n ∈ Z)).length ≤ 1000000 := by have := List.length_filter_le (fun n => decide (n ∈ Z)) (KL.take j); have := HR.out.2; simp at *; omega
            by_cases hlj : j < KL.length
            · have hltj : (j : Int) < KL.length := by omega
              obtain ⟨m, hm⟩ : ∃ m, KL[j]? = some m := ⟨KL[j], by simp [hlj]⟩
              have hs1 := filter_step (fun n => decide (n ∈ Z)) hm
              obtain ⟨Y, hY⟩ : ∃ x, ((KL.take j).filter fun n => decide (n ∈ Z)) = x := ⟨_, rfl⟩
              rw [hY] at S5 hYl hs1 ⊢
              obtain ⟨og, rfl⟩ := S5.numAddr 0 rfl hlj
              have cm := S5.numCell 0 rfl hm
              have I1 := S5.yIn 2 rfl m
              by_cases hin : m ∈ Z
              · have hd : decide (m ∈ Z) = true := by simpa using hin
                rw [hd] at I1
                rw [if_pos hd] at hs1
                have HS1 := Lib.hid (And.intro hs1 (And.intro hlj (And.intro hm hYl)))
                replace I1 := Lib.hid I1
                clear S5 hm hYl hY hs1 hin hlj hd
                go_wp2_with fail
                refine (I1.out).mono ?_
                rintro e w6 ⟨rfl, S6⟩
                have cm2 := S6.numCell 0 rfl HS1.out.2.2.1
                replace S6 := Lib.hid S6
                clear I1 cm
                go_wp2_with (at_builtin; refine wpList_push_sep rfl _ _ rfl (S6.out.later (belowAlloc _ _)) 1 rfl rfl _ _ rfl (cell_of_row _ _ _ _ _ _ (heapAllocNew _ _)) (by have := HS1.out.2.2.2; omega) ?_)
                intro va vc w7 S7
                replace S7 := Lib.hid S7
                clear S6 cm2
                go_wp2
                refine ⟨⟨j + 1, by have := HS1.out.2.1; omega, by go_num, ?_⟩, by have := HS1.out.2.1; simp [intOf]; omega⟩
                rw [HS1.out.1]; simpa using S7.out
              · have hd : decide (m ∈ Z) = false := by simpa using hin
                rw [hd] at I1
                rw [if_neg (by rw [hd]; simp)] at hs1
                have HS1 := Lib.hid (And.intro hs1 hlj)
                replace I1 := Lib.hid I1
                clear S5 hm hYl hY hs1 hin hlj hd
                go_wp2_with fail
                refine (I1.out).mono ?_
                rintro e w6 ⟨rfl, S6⟩
                replace S6 := Lib.hid S6
                clear I1 cm
                go_wp2
                exact ⟨⟨j + 1, by have := HS1.out.2; omega, by go_num, by rw [HS1.out.1]; exact S6.out⟩, by have := HS1.out.2; simp [intOf]; omega⟩
            · have hltj : ¬ (j : Int) < KL.length := by omega
              rw [List.take_of_length_le (by omega), HR.out.1] at S5 ⊢
              have S6 := Lib.hid (S5.sub (.cons _ (.cons_cons _ (.cons _ (List.Sublist.refl _)))))
              clear S5 hlj hYl
              go_wp2
              go_ret
              exact ⟨_, rfl, S6.out⟩
theorem live_le (H : HeapM) (k : Int) : H.live k ≤ H.objs.length := List.length_filter_le _ _
theorem garbage_in (G : H.Good N) (E : List V) : (H.objs.map (·.1)).filter (fun n => !decide (n ∈ H.reachedM E) && decide (0 < cnt (allVals H.objs) n)) = H.garbageM E := by
  unfold HeapM.garbageM
  refine List.filter_congr fun n _ => ?_
  rw [Bool.eq_iff_iff]
  simp [HeapM.mem_reached]
set_option maxRecDepth 100000 in
set_option maxHeartbeats 3200000 in
theorem yGarbage (S : Sep w Rs W) (q : Nat) (hq : Rs[q]? = some (refR r H)) (F : H.Fit N) (hN : N ≤ 1000000) (a : Option Addr) (c : Nat) (E : List V) (hs : ∀ W', Sep w Rs W' → SeesV W' (.slice a E.length c) E) (hE : E.length ≤ 1000000) :
    Calls Try.prog 41 #[.pointer (some ⟨r, 0, none⟩), .slice a E.length c] W fun e W' => ∃ v, e = .returned v ∧ Sep w (numsR v (H.garbageM E) :: Rs) W' := by
  have HQ := Lib.hid hq
  have HF := Lib.hid (And.intro F hN)
  have HG := Lib.hid (garbage_in F.G E)
  have hol : H.objs.length ≤ 1000000 := by have := F.G.len; omega
  have HOL := Lib.hid hol
  have C := Lib.hid (yReached S q hq F hN a c E hs hE)
  clear S hq F hN hs hE hol
  go_enter Try.func41, Try.ntmps41
  go_wp2_with fail
  refine (C.out).mono ?_
  rintro e w1 ⟨rv, rfl, S1⟩
  obtain ⟨ra, rc, rfl⟩ := (S1.row 0 rfl).form
  have S3 := S1.madeNums
  have C1 := Lib.hid (S3.yAll (q + 2) (by simpa using HQ.out) HF.out.1.G (by have := HF.out.2; omega))
  clear S1 S3 C
  go_wp2_with fail
  refine (C1.out).mono ?_
  rintro e w3 ⟨av, rfl, S4⟩
  obtain ⟨aa, ac, rfl⟩ := (S4.row 0 rfl).form
  have hr := HG.out
  have hkl : (H.objs.map (·.1)).length ≤ 1000000 := by rw [List.length_map]; exact HOL.out
  have hko := HeapM.keys_nums HF.out.1.G
  obtain ⟨KL, hKL⟩ : ∃ x, (H.objs.map (·.1)) = x := ⟨_, rfl⟩
  rw [hKL] at S4 hr hkl hko ⊢
  have hkli : (KL.length : Int) ≤ 1000000 := by omega
  obtain ⟨Z, hZ⟩ : ∃ x, (H.reachedM E) = x := ⟨_, rfl⟩
  rw [hZ] at S4 hr ⊢
  have HR := Lib.hid (And.intro hr (And.intro hkl hko))
  obtain ⟨ob, hob⟩ : ∃ ob, w1.heap.size = ob := ⟨_, rfl⟩
  rw [hob] at S4 ⊢
  have SS : Hid (Sep w (numsR (.slice aa KL.length ac) KL :: numsR (.slice (some ⟨ob, 0, none⟩) 0 0) ((KL.take 0).filter (fun n => !decide (n ∈ Z) && decide (0 < cnt (allVals H.objs) n))) :: numsR (.slice ra Z.length rc) Z :: Rs) w3) := Lib.hid S4
  clear S4 C1 hKL hr hkl hob hko hZ
  go_wp2
  go_loopw [6, 8] (fun ov iv wr => ∃ j : Nat, j ≤ KL.length ∧ iv = .int .i64 j ∧ Sep w (numsR (.slice aa KL.length ac) KL :: numsR ov ((KL.take j).filter (fun n => !decide (n ∈ Z) && decide (0 < cnt (allVals H.objs) n))) :: numsR (.slice ra Z.length rc) Z :: Rs) wr) (fun _ iv _ => KL.length - (intOf iv).toNat)
  case atStart => exact ⟨0, by omega, rfl, SS.out⟩
  case round =>
    clear SS
    obtain ⟨j, hj, rfl, S5⟩ := hrel
    obtain ⟨ya, yc, rfl⟩ := (S5.row 1 rfl).form
    have hYl : ((KL.take j).filter (fun n => !decide (n ∈ Z) && decide (0 < cnt (allVals H.objs) n))).length ≤ 1000000 := by have := List.length_filter_le (fun n => !decide (n ∈ Z) && decide (0 < cnt (allVals H.objs) n)) (KL.take j); have := HR.out.2.1; simp at *; omega
    by_cases hlj : j < KL.length
    · have hltj : (j : Int) < KL.length := by omega
      obtain ⟨m, hm⟩ : ∃ m, KL[j]? = some m := ⟨KL[j], by simp [hlj]⟩
      have hs1 := filter_step (fun n => !decide (n ∈ Z) && decide (0 < cnt (allVals H.objs) n)) hm
      have hml := HR.out.2.2.2 m (List.mem_of_getElem? hm)
      have hmok := HeapM.live_ok HF.out.1.G (by have := HF.out.2; omega) hml
      obtain ⟨Y, hY⟩ : ∃ x, ((KL.take j).filter (fun n => !decide (n ∈ Z) && decide (0 < cnt (allVals H.objs) n))) = x := ⟨_, rfl⟩
      rw [hY] at S5 hYl hs1 ⊢
      obtain ⟨og, rfl⟩ := S5.numAddr 0 rfl hlj
      have cm := S5.numCell 0 rfl hm
      have I1 := S5.yIn 2 rfl m
      by_cases hin : m ∈ Z
      · have hd : decide (m ∈ Z) = true := by simpa using hin
        rw [hd] at I1
        rw [if_neg (by rw [hd]; simp)] at hs1
        have HS1 := Lib.hid (And.intro hs1 hlj)
        replace I1 := Lib.hid I1
        clear S5 hm hYl hY hs1 hin hlj hd hml hmok
        go_wp2_with fail
        refine (I1.out).mono ?_
        rintro e w6 ⟨rfl, S6⟩
        replace S6 := Lib.hid S6
        clear I1 cm
        go_wp2
        exact ⟨⟨j + 1, by have := HS1.out.2; omega, by go_num, by rw [HS1.out.1]; exact S6.out⟩, by have := HS1.out.2; simp [intOf]; omega⟩
      · have hd : decide (m ∈ Z) = false := by simpa using hin
        rw [hd] at I1
        have HSM := Lib.hid (And.intro hlj (And.intro hm (And.intro hYl (And.intro hs1 (And.intro hml hd)))))
        replace I1 := Lib.hid I1
        clear S5 hYl hY hs1 hin hlj hd
        go_wp2_with fail
        refine (I1.out).mono ?_
        rintro e w6 ⟨rfl, S6⟩
        have cm2 := S6.numCell 0 rfl HSM.out.2.1
        have C2 := S6.yCount (q + 3) (by simpa using HQ.out) HF.out.1.G (by have := HF.out.2; omega) (V.ref m hmok)
        rw [HeapM.count_ref H m hmok HSM.out.2.2.2.2.1] at C2
        have hcl : cnt (allVals H.objs) m ≤ 1000000 := by
          have := cnt_le (allVals H.objs) m
          have h2 := HF.out.1.G.wt
          unfold HeapM.weight at h2
          have := HF.out.2; omega
        have hc0 := cnt_nonneg (allVals H.objs) m
        obtain ⟨ct, hct⟩ : ∃ x, (cnt (allVals H.objs) m) = x := ⟨_, rfl⟩
        rw [hct] at C2 hcl hc0
        have HCT := Lib.hid hct
        replace C2 := Lib.hid C2
        clear I1 S6 hm hml hct
        go_wp2_with fail
        refine (C2.out).mono ?_
        rintro e w7 ⟨rfl, S7⟩
        have cm3 := S7.numCell 0 rfl HSM.out.2.1
        replace S7 := Lib.hid S7
        clear C2 cm cm2
        by_cases hp : 0 < ct
        · have HP : Hid ((KL.take (j + 1)).filter (fun n => !decide (n ∈ Z) && decide (0 < cnt (allVals H.objs) n)) = Y ++ [m]) := Lib.hid (by
            rw [HSM.out.2.2.2.1, if_pos]; rw [HSM.out.2.2.2.2.2, HCT.out]; simpa using hp)
          go_wp2_with (at_builtin; refine wpList_push_sep rfl _ _ rfl (S7.out.later (belowAlloc _ _)) 1 rfl rfl _ _ rfl (cell_of_row _ _ _ _ _ _ (heapAllocNew _ _)) (by have := HSM.out.2.2.1; omega) ?_)
          intro va vc w8 S8
          replace S8 := Lib.hid S8
          clear S7 cm3
          go_wp2
          refine ⟨⟨j + 1, by have := HSM.out.1; omega, by go_num, ?_⟩, by have := HSM.out.1; simp [intOf]; omega⟩
          rw [HP.out]; simpa using S8.out
        · have HP : Hid ((KL.take (j + 1)).filter (fun n => !decide (n ∈ Z) && decide (0 < cnt (allVals H.objs) n)) = Y) := Lib.hid (by
            rw [HSM.out.2.2.2.1, if_neg]; rw [HSM.out.2.2.2.2.2, HCT.out]; simpa using hp)
          go_wp2
          exact ⟨⟨j + 1, by have := HSM.out.1; omega, by go_num, by rw [HP.out]; exact S7.out⟩, by have := HSM.out.1; simp [intOf]; omega⟩
    · have hltj : ¬ (j : Int) < KL.length := by omega
      rw [List.take_of_length_le (by omega), HR.out.1] at S5 ⊢
      have S6 := Lib.hid (S5.sub (.cons _ (.cons_cons _ (.cons _ (List.Sublist.refl _)))))
      clear S5 hlj hYl
      go_wp2
      go_ret
      exact ⟨_, rfl, S6.out⟩
set_option maxRecDepth 100000 in
set_option maxHeartbeats 1600000 in
theorem yCollect (S : Sep w (refR r H :: Rs) W) (F : H.Fit N) (hN : N ≤ 1000000) (a : Option Addr) (c : Nat) (E : List V) (hs : ∀ (W' : World) (H' : HeapM), Sep w (refR r H' :: Rs) W' → SeesV W' (.slice a E.length c) E) (hE : E.length ≤ 1000000) :
    Calls Try.prog 42 #[.pointer (some ⟨r, 0, none⟩), .slice a E.length c] W fun e W' => e = .returned (.tuple #[.int .i64 ((H.objs.length : Int) - (H.collect E).objs.length), .int .i64 ((H.live 6 : Int) - (H.collect E).live 6)]) ∧ Sep w (refR r (H.collect E) :: Rs) W' := by
  have G1 := F.G.sweep E
  have F1 : (H.sweep E).Fit N := ⟨G1, F.K.sweep' E, fun p hp => F.P p (List.mem_filter.1 hp).1⟩
  have C1 := Lib.hid (S.yLive 0 rfl F.G (by omega) 6)
  have C2 := Lib.hid (fun W (S : Sep w (refR r H :: Rs) W) => ref_sweep S F.G (by omega) a c E hs (by omega))
  have C3 := Lib.hid (fun W (S : Sep w (refR r (H.sweep E) :: Rs) W) => yGarbage S 0 rfl F1 hN a c E (fun W' S' => hs W' _ S') hE)
  have hn1 := HeapM.garbageM_nums G1 E
  have hgl := hn1.len
  have hl1 := F.G.len
  have hl0 := G1.len
  have C4 := Lib.hid (fun W ga gc (S : Sep w (refR r (H.sweep E) :: numsR (.slice ga ((H.sweep E).garbageM E).length gc) ((H.sweep E).garbageM E) :: Rs) W) => ref_free S G1 (by omega) ga gc _ (fun W1 H' S' => SeesN.of_slIs (S'.row 1 rfl)) (hn1.ok G1 (by omega)) (by omega))
  have G2 := G1.freeAll ((H.sweep E).garbageM E)
  have C5 := Lib.hid (fun W (S : Sep w (refR r (H.collect E) :: Rs) W) => S.yLive 0 rfl (N := N) G2 (by omega) 6)
  have hf := freed_len (H := H.sweep E) G1.ok.nk ((H.sweep E).garbageM E)
  have hl2 : H.live 6 ≤ H.objs.length := live_le _ _
  have hl3 : (H.collect E).live 6 ≤ (H.collect E).objs.length := live_le _ _
  have hcl : (H.collect E).objs = ((H.sweep E).freeAll ((H.sweep E).garbageM E)).objs := rfl
  rw [← hcl] at hf
  have HFQ := Lib.hid (And.intro hf (And.intro hl1 (And.intro hl2 (And.intro hl3 hN))))
  clear S hs G1 F1 hn1 G2 hf hl1 hl2 hl3 hcl hE hN F hgl hl0
  go_enter Try.func42, Try.ntmps42
  go_wp2_with fail
  refine (C1.out).mono ?_
  rintro e w1 ⟨rfl, T1⟩
  replace T1 := Lib.hid (C2.out _ T1)
  clear C1
  go_wp2_with fail
  refine (T1.out).mono ?_
  rintro e w2 ⟨⟨f, rfl, f1⟩, T2⟩
  have HF1 := Lib.hid f1
  replace T2 := Lib.hid (C3.out _ T2)
  clear T1 f1
  go_wp2_with fail
  refine (T2.out).mono ?_
  rintro e w3 ⟨v, rfl, T3⟩
  obtain ⟨ga, gc, rfl⟩ := (T3.row 0 rfl).form
  replace T3 := Lib.hid (C4.out _ _ _ T3.swap)
  clear T2
  go_wp2_with fail
  refine (T3.out).mono ?_
  rintro e w4 ⟨rfl, T4⟩
  replace T4 : Sep w (refR r (H.collect E) :: Rs) w4 := T4.swap.tail
  have T5 := Lib.hid (C5.out _ T4)
  clear T3 T4
  have hw1 : wrap64 ((f : Int) + ((H.sweep E).freed ((H.sweep E).garbageM E) : Nat)) = (H.objs.length : Int) - (H.collect E).objs.length := by
    have := HFQ.out; have := HF1.out
    rw [wrap64_id _ (by omega)]; omega
  have hw2 : wrap64 ((H.live 6 : Int) - (H.collect E).live 6) = (H.live 6 : Int) - (H.collect E).live 6 := by
    have := HFQ.out; have := HF1.out
    exact wrap64_id _ (by omega)
  have HW := Lib.hid (And.intro hw1 hw2)
  clear hw1 hw2
  go_wp2_with fail
  refine (T5.out).mono ?_
  rintro e w5 ⟨rfl, T7⟩
  replace T7 := Lib.hid T7
  clear T5
  go_wp2
  exact bodyPost_ret (v := .tuple #[.int .i64 (wrap64 ((f : Int) + ((H.sweep E).freed ((H.sweep E).garbageM E) : Nat))), .int .i64 (wrap64 ((H.live 6 : Int) - (H.collect E).live 6))]) (by simp [results, Try.results42, go_sem]) rfl ⟨by rw [HW.out.1, HW.out.2], T7.out⟩
end
end Go.Proofs.Ytjinabglachglaa
