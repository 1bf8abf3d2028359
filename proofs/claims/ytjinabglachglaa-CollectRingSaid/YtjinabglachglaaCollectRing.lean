/-
  CollectRing: for any three bytes and any bool the law returns true: a ring of objects is not freed by a sweep, but by a collection, whole; none of it is freed if one of it is held; what it holds is freed with it. No condition.
-/
import Derived.Test.YtjinabglachglaaRingM
import Derived.Deep.RegionHeld3
import Derived.Deep.DeepCutAuto
namespace Go.Proofs.Ytjinabglachglaa.collectRing
set_option linter.unusedSimpArgs false
open Go.ChangeShapes Go.WideShapes Go.ChangeAt Go.RowKit
set_option linter.unusedVariables false
theorem okWide_array {P : Program} {w : World} {r : Reach} {base : Nat} {t e : TypeId} {n : Nat} {v : Value} (ht : P.underlying t = some (.array n e)) (h : Value.okWide P w r base t v) : ∃ cs, v = .agg cs ∧ cs.size = P.cellsOf t := by
  simp only [Value.okWide, ht] at h
  obtain ⟨cs, h1, h2, _⟩ := h
  exact ⟨cs, h1, h2⟩
theorem round_end {k T : Nat} (h : k < T) : T - (intOf (.int .i64 ((k : Int) + 1))).toNat < T - (intOf (.int .i64 (k : Int))).toNat := by simp [intOf]; omega
theorem node_val {i : Nat} (h : i < 1000) : (RG.node i).val = .agg #[.int .i64 4, .int .i64 ((i : Int) + 1), .string ⟨#[]⟩] := by
  rw [← RG.node_n h]; rfl
section
variable {w W : World} {Rs : List Res} {h : Nat}
theorem valAddr {w W : World} {Rs : List Res} (S : Sep w Rs W) {a : Option Addr} {c : Nat} {L : List V} (i : Nat) (hi : Rs[i]? = some (valsR (.slice a L.length c) L)) {k : Nat} (hk : k < L.length) : ∃ g, a = some ⟨g, 0, none⟩ := by
  rcases (S.row i hi).shape with ⟨h1, h2⟩ | ⟨g, cap, h1, _⟩
  · rw [h2] at hk; simp at hk
  · exact ⟨g, (Value.slice.inj h1).1⟩
theorem nodeCells {w W : World} {Rs : List Res} (S : Sep w Rs W) {T : Nat} (hT : T ≤ 100) {g c : Nat} (i : Nat) (hi : Rs[i]? = some (valsR (.slice (some ⟨g, 0, none⟩) ((List.range T).map RG.node).length c) ((List.range T).map RG.node))) {k : Nat} (hk : k < T) :
    W.cell? ⟨g, k * 3, none⟩ = some (.int .i64 4) ∧ W.cell? ⟨g, k * 3 + 1, none⟩ = some (.int .i64 ((k : Int) + 1)) ∧ W.cell? ⟨g, k * 3 + 2, none⟩ = some (.string ⟨#[]⟩) := by
  have hv : ((List.range T).map RG.node)[k]? = some (RG.node k) := by rw [List.getElem?_map, List.getElem?_range hk]; rfl
  refine ⟨(S.row i hi).cell (f := V.cells) (m := 3) V.cells_len rfl hv (j := 0) rfl, ?_, (S.row i hi).cell (f := V.cells) (m := 3) V.cells_len rfl hv (j := 2) rfl⟩
  rw [← RG.node_n (show k < 1000 by omega)]
  exact (S.row i hi).cell (f := V.cells) (m := 3) V.cells_len rfl hv (j := 1) rfl
theorem mk (S : Sep w Rs W) (k : Nat) (hk : k < 35) (i : Nat) (hi : Rs[i]? = some (heapR h (baseM (fun _ => RG.o0) k))) : Calls Try.prog 26 #[.pointer (some ⟨h, 0, none⟩), .int .i64 6, .string ⟨#[]⟩, .int .i64 0, .slice none 0 0] W fun e W' => e = .returned (.agg #[.int .i64 4, .int .i64 ((k : Int) + 1), .string ⟨#[]⟩]) ∧ Sep w (Rs.set i (heapR h (baseM (fun _ => RG.o0) (k + 1)))) W' := by
  have := S.make i hi (baseM_fit (fun _ => RG.o0) (fun _ => ⟨⟨by decide, by decide⟩, rfl, rfl⟩) k).G (by omega) RG.o0 (.slice none 0 0) (sees_none W) (by simp [RG.o0]) rfl (by decide) (by decide)
  rw [baseM_last] at this
  exact this
theorem rep (S : Sep w Rs W) {H : HeapM} {N : Nat} (i : Nat) (hi : Rs[i]? = some (heapR h H)) (F : H.Fit N) (hN : N + 1 ≤ 4000000) (a b bs : Nat) (ha : a < 1000) (hb : b < 1000) (hs : W.heap[bs]? = some (.cells #[.int .i64 4, .int .i64 ((b : Int) + 1), .string ⟨#[]⟩] 41)) :
    Calls Try.prog 27 #[.pointer (some ⟨h, 0, none⟩), .agg #[.int .i64 4, .int .i64 ((a : Int) + 1), .string ⟨#[]⟩], .int .i64 0, .int .i64 0, .slice (some ⟨bs, 0, none⟩) 1 1] W fun e W' => e = .returned (.bool (H.canReplace (RG.node a) 0 0)) ∧ Sep w (Rs.set i (heapR h (H.replace (RG.node a) 0 0 [RG.node b]))) W' := by
  have := S.replace i hi F.G (RG.node a) 0 0 _ _ (sees_one (RG.node b) rfl (RG.node_n hb) rfl hs) (by simpa using hN)
  rw [node_val ha] at this
  exact this
theorem putn (S : Sep w Rs W) {H : HeapM} (i : Nat) (hi : Rs[i]? = some (heapR h H)) (a b : Nat) (ha : a < 1000) (hb : b < 1000) :
    Calls Try.prog 28 #[.pointer (some ⟨h, 0, none⟩), .agg #[.int .i64 4, .int .i64 ((a : Int) + 1), .string ⟨#[]⟩], .agg #[.int .i64 3, .int .i64 0, .string ⟨#[110, 101, 120, 116]⟩], .agg #[.int .i64 4, .int .i64 ((b : Int) + 1), .string ⟨#[]⟩]] W fun e W' => e = .returned (.bool (H.canPut (RG.node a) RG.nx)) ∧ Sep w (Rs.set i (heapR h (H.put (RG.node a) RG.nx (RG.node b)))) W' := by
  have := S.put i hi (RG.node a) RG.nx (RG.node b)
  rw [node_val ha, node_val hb] at this
  exact this
end
set_option maxRecDepth 100000 in
set_option maxHeartbeats 6400000 in
theorem walk (w : World) (a0 a1 a2 : Nat) (d : Bool) (h0 : a0 < 256) (h1 : a1 < 256) (h2 : a2 < 256) :
    Calls Try.prog 6 #[.agg #[.int .u8 a0, .int .u8 a1, .int .u8 a2], .bool d] w fun e W' => e = .returned (.bool true) ∧ Below w.heap.size w W' := by
  obtain ⟨bx, hbx⟩ : ∃ bx, w.heap.size = bx := ⟨_, rfl⟩
  have S0 := (Sep.start (Below.refl w.heap.size w)).alloc (.cells #[.int .u8 a0, .int .u8 a1, .int .u8 a2] 48)
  have K := Lib.hid (shown_ok (w.alloc (.cells #[.int .u8 a0, .int .u8 a1, .int .u8 a2] 48)))
  rw [hbx] at S0
  replace S0 := Lib.hid S0
  have HBX := Lib.hid hbx
  go_enter Try.func6, Try.ntmps6
  go_wp2_with fail
  refine K.out.mono ?_
  rintro e w1 ⟨rfl, b1⟩
  have N0 := Lib.hid (Sep.new (S0.out.later b1))
  clear S0 K b1 hbx
  go_wp2_with fail
  refine N0.out.mono ?_
  rintro e w2 ⟨h, rfl, S2, -⟩
  have c0 := cellAt (S2.box 1 rfl) 0 (v := .int .u8 a0) rfl
  have c1 := cellAt (S2.box 1 rfl) 1 (v := .int .u8 a1) rfl
  have c2 := cellAt (S2.box 1 rfl) 2 (v := .int .u8 a2) rfl
  obtain ⟨m, hm⟩ : ∃ m : Nat, m = 1 + a0 % 20 := ⟨_, rfl⟩
  obtain ⟨q, hq⟩ : ∃ q : Nat, q = a2 % 16 := ⟨_, rfl⟩
  have em : (1 : Int) + (a0 : Int) % 20 = m := by omega
  have em2 : wrap64 (1 + (a0 : Int) % 20) = m := by rw [wrap64_id _ (by omega)]; exact em
  have eq2 : (a2 : Int) % 16 = q := by omega
  obtain ⟨T, hT⟩ : ∃ T : Nat, T = m + q := ⟨_, rfl⟩
  have hm1 : 1 ≤ m ∧ m ≤ 20 := by omega
  have hq1 : q ≤ 15 := by omega
  have hT1 : m ≤ T ∧ T ≤ 35 := by omega
  have eT : wrap64 ((m : Int) + q) = T := by rw [wrap64_id _ (by omega)]; omega
  have HH := Lib.hid (And.intro hm (And.intro hq (And.intro hT (And.intro hm1 (And.intro hq1 hT1)))))
  have S3 := S2.madeVals
  replace S3 : Sep w [valsR (.slice (some ⟨w2.heap.size, 0, none⟩) 0 0) ((List.range 0).map RG.node), heapR h (baseM (fun _ => RG.o0) 0), boxR bx (.cells #[.int .u8 a0, .int .u8 a1, .int .u8 a2] 48)] (w2.alloc (.cells #[] 41)) := S3
  replace S3 := Lib.hid S3
  clear S2 N0 hm hq hT hm1 hq1 hT1
  go_wp2
  clear em em2 eq2 eT
  go_loopw [9, 10] (fun lv i wr => ∃ k : Nat, k ≤ T ∧ i = .int .i64 k ∧ Sep w [valsR lv ((List.range k).map RG.node), heapR h (baseM (fun _ => RG.o0) k), boxR bx (.cells #[.int .u8 a0, .int .u8 a1, .int .u8 a2] 48)] wr) (fun _ i _ => T - (intOf i).toNat)
  case atStart => exact ⟨0, by omega, rfl, S3.out⟩
  case round =>
    clear S3
    obtain ⟨k, hk, rfl, S4⟩ := hrel
    have eT : wrap64 ((m : Int) + q) = T := by have := HH.out; rw [wrap64_id _ (by omega)]; omega
    obtain ⟨la, lc, rfl⟩ := (S4.row 0 rfl).form
    have hLl : ((List.range k).map RG.node).length = k := by simp
    have hk35 : k ≤ 35 := by have := HH.out.2.2.2.2.2.2; omega
    have hnext : (List.range k).map RG.node ++ [RG.node k] = (List.range (k + 1)).map RG.node := by rw [List.range_succ, List.map_append]; rfl
    obtain ⟨NL, hNL⟩ : ∃ NL, (List.range k).map RG.node = NL := ⟨_, rfl⟩
    rw [hNL] at S4 hLl hnext ⊢
    have HK := Lib.hid (And.intro hk (And.intro hk35 (And.intro hLl (And.intro hnext hNL))))
    by_cases hlt : k < T
    · have hlti : (k : Int) < T := by omega
      have hkr : (k : Int) + 1 ≤ 100 := by omega
      have M1 := Lib.hid (mk S4 k (by have := HH.out.2.2.2.2.2.2; omega) 1 rfl)
      have HLT := Lib.hid hlt
      clear S4 hLl hnext hNL hlt hk hk35
      go_wp2_with fail
      refine M1.out.mono ?_
      rintro e w5 ⟨rfl, S5⟩
      have S6 := S5.alloc (.cells #[.int .i64 4, .int .i64 ((k : Int) + 1), .string ⟨#[]⟩] 41)
      clear M1 S5
      go_wp2_with (at_builtin; refine wpList_append_sep rfl _ _ rfl S6 1 rfl rfl _ [RG.node k] rfl (sees_one (RG.node k) rfl (RG.node_n (by have := HK.out.2.1; omega)) rfl (S6.box 0 rfl)) (by have := HK.out.2.1; have := HK.out.2.2.1; simp; omega) ?_)
      intro va vc w7 S7
      have S8 := Lib.hid S7.tail
      clear S6 S7
      go_wp2
      refine ⟨⟨k + 1, by have := HLT.out; omega, by go_num, ?_⟩, by have := HLT.out; simp [intOf]; omega⟩
      rw [← HK.out.2.2.2.1]; simpa using S8.out
    · have hkT : k = T := by omega
      have hlti : ¬ (k : Int) < T := by omega
      have S5 : Sep w [valsR (.slice la ((List.range T).map RG.node).length lc) ((List.range T).map RG.node), heapR h (RG.ring m T d 0), boxR bx (.cells #[.int .u8 a0, .int .u8 a1, .int .u8 a2] 48)] wr := by
        rw [← RG.ring_zero, ← hkT, hNL]; exact S4
      have hNT : NL = (List.range T).map RG.node := by rw [← hNL, hkT]
      rw [hNT]
      have hlT : (((List.range T).map RG.node).length : Int) = T := by simp
      have hlTn : ((List.range T).map RG.node).length = T := by simp
      obtain ⟨g, rfl⟩ := valAddr S5 0 rfl (k := 0) (by have := HH.out.2.2.2; rw [hlTn]; omega)
      have NC := Lib.hid (fun (W : World) (Qs Rs : List Res) (S : Sep w (Qs ++ valsR (.slice (some ⟨g, 0, none⟩) ((List.range T).map RG.node).length lc) ((List.range T).map RG.node) :: Rs) W) (k : Nat) (hk : k < T) => nodeCells S (by have := HH.out.2.2.2; omega) (g := g) (c := lc) Qs.length (by simp) hk)
      obtain ⟨NT, hNT2⟩ : ∃ NT, (List.range T).map RG.node = NT := ⟨_, rfl⟩
      rw [hNT2] at S5 hlT hlTn NC ⊢
      replace S5 := Lib.hid S5
      have HNT := Lib.hid hNT2
      clear S4 hLl hnext hNL hNT HK hk hk35 hlt hkT hNT2
      go_wp2
      clear eT
      go_loopw [11] (fun i wr => ∃ k : Nat, k ≤ T ∧ i = .int .i64 k ∧ Sep w [valsR (.slice (some ⟨g, 0, none⟩) NT.length lc) NT, heapR h (RG.ring m T d k), boxR bx (.cells #[.int .u8 a0, .int .u8 a1, .int .u8 a2] 48)] wr) (fun i _ => T - (intOf i).toNat)
      case atStart => exact ⟨0, by omega, rfl, S5.out⟩
      case round =>
        clear S5
        obtain ⟨k, hk, rfl, S6⟩ := hrel
        have eT : wrap64 ((m : Int) + q) = T := by have := HH.out; rw [wrap64_id _ (by omega)]; omega
        by_cases hlt : k < T
        · have hlti : (k : Int) < T := by omega
          have hk1 : wrap64 ((k : Int) + 1) = (k : Int) + 1 := by have := HH.out; exact wrap64_id _ (by omega)
          have hmod0 : 0 ≤ ((k : Int) + 1) % m := Int.emod_nonneg _ (by have := HH.out; omega)
          have hmodm : ((k : Int) + 1) % m < m := Int.emod_lt_of_pos _ (by have := HH.out; omega)
          obtain ⟨t, ht⟩ : ∃ t : Nat, ((k : Int) + 1) % m = t := ⟨(((k : Int) + 1) % m).toNat, by omega⟩
          rw [ht] at hmod0 hmodm
          have htT : t < T := by have := HH.out; omega
          have htTi : (t : Int) < T := by omega
          obtain ⟨t0, t1, t2⟩ := NC.out wr [] _ S6 t htT
          replace S6 := Lib.hid S6
          have HLT := Lib.hid hlt
          by_cases cA : k + 1 < m
          · have hC9 : (k : Int) + 1 ≤ 100 := by have := HH.out; omega
            have ht2 : t = k + 1 := by
              have := Int.emod_eq_of_lt (a := (k : Int) + 1) (b := m) (by omega) (by omega)
              omega
            have hA1 : ¬ (m : Int) - 1 ≤ k := by omega
            have hA2 : ((k : Int) == (m : Int) - 1) = false := by simp; omega
            have hA3 : ¬ (m : Int) ≤ k := by omega
            have em1 : wrap64 ((m : Int) - 1) = (m : Int) - 1 := by have := HH.out; exact wrap64_id _ (by omega)
            have HK1 : Hid (k + 1 < T) := Lib.hid (by have := HH.out; omega)
            have HST : Hid (RG.st1 m (RG.ring m T d k) k = RG.ring m T d k) := Lib.hid (by unfold RG.st1; rw [if_neg (by omega)])
            have F1 : Hid ((RG.ring m T d k).Fit 200) := Lib.hid ((RG.ring_fit (d := d) (by have := HH.out; omega) (by have := HH.out; omega) k (by have := HLT.out; omega)).more (by have := HH.out; have := HLT.out; omega))
            have SE := S6.out.alloc (.cells #[.int .i64 4, .int .i64 ((k : Int) + 1 + 1), .string ⟨#[]⟩] 41)
            subst ht2
            have hcast : ((k + 1 : Nat) : Int) = (k : Int) + 1 := by omega
            rw [hcast] at t1 ht htTi hmod0 hmodm
            obtain ⟨bt, hbt⟩ : ∃ bt, wr.heap.size = bt := ⟨_, rfl⟩
            rw [hbt] at SE
            obtain ⟨H1, hH1⟩ : ∃ H1, RG.ring m T d k = H1 := ⟨_, rfl⟩
            rw [hH1] at SE F1
            replace HST : Hid (RG.st1 m (RG.ring m T d k) k = H1) := Lib.hid (by rw [HST.out, hH1])
            clear hH1
            replace SE := Lib.hid SE
            clear S6
            have hkT2 : k + 1 < T := HK1.out
            have hT35 : T ≤ 35 := by have := HH.out; omega
            have hstep := RG.step_ring (m := m) (d := d) HLT.out (by omega) (by have := HH.out; omega)
            unfold RG.step at hstep
            rw [if_pos hkT2, HST.out] at hstep
            have HSTEP := Lib.hid hstep
            have KK : Hid (∀ W Hx, Sep w [boxR bt (.cells #[.int .i64 4, .int .i64 ((k : Int) + 1 + 1), .string ⟨#[]⟩] 41), valsR (.slice (some ⟨g, 0, none⟩) NT.length lc) NT, heapR h Hx, boxR bx (.cells #[.int .u8 a0, .int .u8 a1, .int .u8 a2] 48)] W → ((W.cell? ⟨g, k * 3, none⟩ = some (.int .i64 4) ∧ W.cell? ⟨g, k * 3 + 1, none⟩ = some (.int .i64 ((k : Int) + 1)) ∧ W.cell? ⟨g, k * 3 + 2, none⟩ = some (.string ⟨#[]⟩)) ∧ W.cell? ⟨bt, 0, none⟩ = some (.int .i64 4) ∧ W.cell? ⟨bt, 1, none⟩ = some (.int .i64 ((k : Int) + 1 + 1)) ∧ W.cell? ⟨bt, 2, none⟩ = some (.string ⟨#[]⟩))) := Lib.hid fun W Hx S => by
              obtain ⟨y0, y1, y2⟩ := NC.out W [_] _ S k HLT.out
              exact ⟨⟨y0, y1, y2⟩, cellAt (S.box 0 rfl) 0 rfl, cellAt (S.box 0 rfl) 1 rfl, cellAt (S.box 0 rfl) 2 rfl⟩
            cases d with
            | true =>
              have PP : Hid (∀ W, Sep w [boxR bt (.cells #[.int .i64 4, .int .i64 ((k : Int) + 1 + 1), .string ⟨#[]⟩] 41), valsR (.slice (some ⟨g, 0, none⟩) NT.length lc) NT, heapR h H1, boxR bx (.cells #[.int .u8 a0, .int .u8 a1, .int .u8 a2] 48)] W → Calls Try.prog 28 #[.pointer (some ⟨h, 0, none⟩), .agg #[.int .i64 4, .int .i64 ((k : Int) + 1), .string ⟨#[]⟩], .agg #[.int .i64 3, .int .i64 0, .string ⟨#[110, 101, 120, 116]⟩], .agg #[.int .i64 4, .int .i64 ((k : Int) + 1 + 1), .string ⟨#[]⟩]] W fun e W' => (∃ b, e = .returned (.bool b)) ∧ Sep w [boxR bt (.cells #[.int .i64 4, .int .i64 ((k : Int) + 1 + 1), .string ⟨#[]⟩] 41), valsR (.slice (some ⟨g, 0, none⟩) NT.length lc) NT, heapR h (RG.ring m T true (k + 1)), boxR bx (.cells #[.int .u8 a0, .int .u8 a1, .int .u8 a2] 48)] W') := Lib.hid fun W S => by
                have := putn S 2 rfl k (k + 1) (by omega) (by omega)
                have e1 := HSTEP.out
                rw [if_pos rfl] at e1
                rw [e1] at this
                exact this.mono fun e W' ⟨x1, x2⟩ => ⟨⟨_, x1⟩, x2⟩
              clear hstep
              go_upto_region 22 with fail
              have T0 := SE.out
              clear SE
              go_region_held3 (fun W => (W.cell? ⟨g, k * 3, none⟩ = some (.int .i64 4) ∧ W.cell? ⟨g, k * 3 + 1, none⟩ = some (.int .i64 ((k : Int) + 1)) ∧ W.cell? ⟨g, k * 3 + 2, none⟩ = some (.string ⟨#[]⟩)) ∧ W.cell? ⟨bt, 0, none⟩ = some (.int .i64 4) ∧ W.cell? ⟨bt, 1, none⟩ = some (.int .i64 ((k : Int) + 1 + 1)) ∧ W.cell? ⟨bt, 2, none⟩ = some (.string ⟨#[]⟩))
                (first | exact KK.out _ _ (Sep.drew (by assumption)) | exact KK.out _ _ (by assumption))
                (first | (go_at_call 28; refine (PP.out _ (by first | assumption | exact Sep.drew (by assumption))).mono ?_; rintro e w8 ⟨⟨bb, rfl⟩, T1⟩))
              all_goals
                go_wp2
                exact ⟨⟨k + 1, HLT.out, by go_num, Sep.tail (by assumption)⟩, round_end HLT.out⟩
            | false =>
              have PR : Hid (∀ W bs, Sep w [boxR bs (.cells #[.int .i64 4, .int .i64 ((k : Int) + 1 + 1), .string ⟨#[]⟩] 41), boxR bt (.cells #[.int .i64 4, .int .i64 ((k : Int) + 1 + 1), .string ⟨#[]⟩] 41), valsR (.slice (some ⟨g, 0, none⟩) NT.length lc) NT, heapR h H1, boxR bx (.cells #[.int .u8 a0, .int .u8 a1, .int .u8 a2] 48)] W → Calls Try.prog 27 #[.pointer (some ⟨h, 0, none⟩), .agg #[.int .i64 4, .int .i64 ((k : Int) + 1), .string ⟨#[]⟩], .int .i64 0, .int .i64 0, .slice (some ⟨bs, 0, none⟩) 1 1] W fun e W' => (∃ b, e = .returned (.bool b)) ∧ Sep w [boxR bt (.cells #[.int .i64 4, .int .i64 ((k : Int) + 1 + 1), .string ⟨#[]⟩] 41), valsR (.slice (some ⟨g, 0, none⟩) NT.length lc) NT, heapR h (RG.ring m T false (k + 1)), boxR bx (.cells #[.int .u8 a0, .int .u8 a1, .int .u8 a2] 48)] W') := Lib.hid fun W bs S => by
                have := rep S 3 rfl F1.out (by omega) k (k + 1) bs (by omega) (by omega) (S.box 0 rfl)
                have e1 := HSTEP.out
                rw [if_neg (by simp)] at e1
                rw [e1] at this
                exact this.mono fun e W' ⟨x1, x2⟩ => ⟨⟨_, x1⟩, x2.tail⟩
              clear hstep
              go_upto_region 23 with fail
              obtain ⟨wc, hwc⟩ : ∃ wc, wr.alloc (.cells #[.int .i64 4, .int .i64 ((k : Int) + 1 + 1), .string ⟨#[]⟩] 41) = wc := ⟨_, rfl⟩
              obtain ⟨bs, hbs⟩ : ∃ bs, wc.heap.size = bs := ⟨_, rfl⟩
              rw [hwc] at SE ⊢
              have T0 := SE.out
              have T2 := T0.alloc (.cells #[.int .i64 4, .int .i64 ((k : Int) + 1 + 1), .string ⟨#[]⟩] 41)
              rw [hbs] at T2
              clear SE hwc hbt
              go_region_held3 (fun W => (W.cell? ⟨g, k * 3, none⟩ = some (.int .i64 4) ∧ W.cell? ⟨g, k * 3 + 1, none⟩ = some (.int .i64 ((k : Int) + 1)) ∧ W.cell? ⟨g, k * 3 + 2, none⟩ = some (.string ⟨#[]⟩)) ∧ W.cell? ⟨bt, 0, none⟩ = some (.int .i64 4) ∧ W.cell? ⟨bt, 1, none⟩ = some (.int .i64 ((k : Int) + 1 + 1)) ∧ W.cell? ⟨bt, 2, none⟩ = some (.string ⟨#[]⟩))
                (first | exact KK.out _ _ (Sep.drew (by assumption)) | exact KK.out _ _ (by assumption) | exact KK.out _ _ (Sep.drew (Sep.tail (by assumption))) | exact KK.out _ _ (Sep.tail (by assumption)))
                (first | (go_at_call 27; refine (PR.out _ _ (Sep.drew (by assumption))).mono ?_; rintro e w8 ⟨⟨bb, rfl⟩, T1⟩))
              all_goals
                go_wp2
                exact ⟨⟨k + 1, HLT.out, by go_num, Sep.tail (by assumption)⟩, round_end HLT.out⟩
          · by_cases cB : k + 1 = m
            · by_cases cT : k + 1 < T
              · have ht2 : t = 0 := by
                  have : ((k : Int) + 1) % m = 0 := by rw [show (k : Int) + 1 = m by omega]; exact Int.emod_self
                  omega
                subst ht2
                have hC1 : (m : Int) - 1 ≤ k := by omega
                have hC2 : (k : Int) + 1 < T := by omega
                have hC3 : ((k : Int) == (m : Int) - 1) = true := by simp; omega
                have hC4 : ¬ (m : Int) ≤ k := by omega
                have hC5 : ((q : Int) == 0) = false := by have := HH.out; simp; omega
                have hC6 : (k : Int) + 1 ≤ 100 := by have := HH.out; omega
                have hC9 : (k : Int) + 1 ≤ 100 := by have := HH.out; omega
                have em1 : wrap64 ((m : Int) - 1) = (m : Int) - 1 := by have := HH.out; exact wrap64_id _ (by omega)
                have F0 : Hid ((RG.ring m T d k).Fit 200) := Lib.hid ((RG.ring_fit (d := d) (by have := HH.out; omega) (by have := HH.out; omega) k (by have := HLT.out; omega)).more (by have := HH.out; have := HLT.out; omega))
                obtain ⟨H1, hH1⟩ : ∃ H1, RG.st1 m (RG.ring m T d k) k = H1 := ⟨_, rfl⟩
                have HST : Hid (RG.st1 m (RG.ring m T d k) k = H1) := Lib.hid hH1
                have HST0 : Hid ((RG.ring m T d k).replace (RG.node k) 0 0 [RG.node 0] = H1) := Lib.hid (by rw [← hH1]; unfold RG.st1; rw [if_pos (by omega)])
                have F1 : Hid (H1.Fit 201) := Lib.hid (by rw [← HST0.out]; exact F0.out.replace _ 0 0 [_])
                clear hH1
                have HK1 : Hid (k + 1 < T) := Lib.hid (by omega)
                obtain ⟨z0, z1, z2⟩ := NC.out (wr.alloc (.cells #[.int .i64 4, .int .i64 (1), .string ⟨#[]⟩] 41)) [_] _ (S6.out.alloc (.cells #[.int .i64 4, .int .i64 (1), .string ⟨#[]⟩] 41)) (k + 1) (by omega)
                have hcast : ((k + 1 : Nat) : Int) = (k : Int) + 1 := by omega
                rw [hcast] at z1
                have SE := S6.out.alloc (.cells #[.int .i64 4, .int .i64 ((k : Int) + 1 + 1), .string ⟨#[]⟩] 41)
                obtain ⟨bt, hbt⟩ : ∃ bt, wr.heap.size = bt := ⟨_, rfl⟩
                rw [hbt] at SE
                replace SE := Lib.hid SE
                clear S6 cB cA cT
                have KK0 : Hid (∀ W (B : Res) Hx, Sep w [B, valsR (.slice (some ⟨g, 0, none⟩) NT.length lc) NT, heapR h Hx, boxR bx (.cells #[.int .u8 a0, .int .u8 a1, .int .u8 a2] 48)] W → ((W.cell? ⟨g, k * 3, none⟩ = some (.int .i64 4) ∧ W.cell? ⟨g, k * 3 + 1, none⟩ = some (.int .i64 ((k : Int) + 1)) ∧ W.cell? ⟨g, k * 3 + 2, none⟩ = some (.string ⟨#[]⟩)) ∧ W.cell? ⟨g, 0, none⟩ = some (.int .i64 4) ∧ W.cell? ⟨g, 1, none⟩ = some (.int .i64 1) ∧ W.cell? ⟨g, 2, none⟩ = some (.string ⟨#[]⟩))) := Lib.hid fun W B Hx S => by
                  obtain ⟨y0, y1, y2⟩ := NC.out W [_] _ S k HLT.out
                  obtain ⟨x0, x1, x2⟩ := NC.out W [_] _ S 0 (by have := HLT.out; omega)
                  exact ⟨⟨y0, y1, y2⟩, by simpa using x0, by simpa using x1, by simpa using x2⟩
                have PR0 : Hid (∀ W bs, Sep w [boxR bs (.cells #[.int .i64 4, .int .i64 (1), .string ⟨#[]⟩] 41), boxR bt (.cells #[.int .i64 4, .int .i64 ((k : Int) + 1 + 1), .string ⟨#[]⟩] 41), valsR (.slice (some ⟨g, 0, none⟩) NT.length lc) NT, heapR h (RG.ring m T d k), boxR bx (.cells #[.int .u8 a0, .int .u8 a1, .int .u8 a2] 48)] W → Calls Try.prog 27 #[.pointer (some ⟨h, 0, none⟩), .agg #[.int .i64 4, .int .i64 ((k : Int) + 1), .string ⟨#[]⟩], .int .i64 0, .int .i64 0, .slice (some ⟨bs, 0, none⟩) 1 1] W fun e W' => (∃ b, e = .returned (.bool b)) ∧ Sep w [boxR bt (.cells #[.int .i64 4, .int .i64 ((k : Int) + 1 + 1), .string ⟨#[]⟩] 41), valsR (.slice (some ⟨g, 0, none⟩) NT.length lc) NT, heapR h H1, boxR bx (.cells #[.int .u8 a0, .int .u8 a1, .int .u8 a2] 48)] W') := Lib.hid fun W bs S => by
                  have := rep S 3 rfl F0.out (by omega) k 0 bs (by have := HH.out; have := HLT.out; omega) (by omega) (S.box 0 rfl)
                  rw [HST0.out] at this
                  exact this.mono fun e W' ⟨x1, x2⟩ => ⟨⟨_, x1⟩, x2.tail⟩
                go_upto_region 19 with fail
                obtain ⟨wc, hwc⟩ : ∃ wc, wr.alloc (.cells #[.int .i64 4, .int .i64 ((k : Int) + 1 + 1), .string ⟨#[]⟩] 41) = wc := ⟨_, rfl⟩
                obtain ⟨bs, hbs⟩ : ∃ bs, wc.heap.size = bs := ⟨_, rfl⟩
                rw [hwc] at SE ⊢
                have T0 := SE.out
                have T2 := T0.alloc (.cells #[.int .i64 4, .int .i64 (1), .string ⟨#[]⟩] 41)
                rw [hbs] at T2
                clear SE hwc hbt
                go_region_held3 (fun W => (W.cell? ⟨g, k * 3, none⟩ = some (.int .i64 4) ∧ W.cell? ⟨g, k * 3 + 1, none⟩ = some (.int .i64 ((k : Int) + 1)) ∧ W.cell? ⟨g, k * 3 + 2, none⟩ = some (.string ⟨#[]⟩)) ∧ W.cell? ⟨g, 0, none⟩ = some (.int .i64 4) ∧ W.cell? ⟨g, 1, none⟩ = some (.int .i64 1) ∧ W.cell? ⟨g, 2, none⟩ = some (.string ⟨#[]⟩))
                  (first | exact KK0.out _ _ _ (Sep.drew (by assumption)) | exact KK0.out _ _ _ (by assumption) | exact KK0.out _ _ _ (Sep.drew (Sep.tail (by assumption))) | exact KK0.out _ _ _ (Sep.tail (by assumption)))
                  (first | (go_at_call 27; refine (PR0.out _ _ (Sep.drew (by assumption))).mono ?_; rintro e w8 ⟨⟨bb, rfl⟩, T1⟩))
                all_goals
                  have SE : Hid (Sep w [boxR bt (.cells #[.int .i64 4, .int .i64 ((k : Int) + 1 + 1), .string ⟨#[]⟩] 41), valsR (.slice (some ⟨g, 0, none⟩) NT.length lc) NT, heapR h H1, boxR bx (.cells #[.int .u8 a0, .int .u8 a1, .int .u8 a2] 48)] w8) := Lib.hid (by assumption)
                  clear KK0 PR0 T0 T1 T2
                  have hkT2 : k + 1 < T := HK1.out
                  have hT35 : T ≤ 35 := by have := HH.out; omega
                  have hstep := RG.step_ring (m := m) (d := d) HLT.out (by omega) (by have := HH.out; omega)
                  unfold RG.step at hstep
                  rw [if_pos hkT2, HST.out] at hstep
                  have HSTEP := Lib.hid hstep
                  have KK : Hid (∀ W Hx, Sep w [boxR bt (.cells #[.int .i64 4, .int .i64 ((k : Int) + 1 + 1), .string ⟨#[]⟩] 41), valsR (.slice (some ⟨g, 0, none⟩) NT.length lc) NT, heapR h Hx, boxR bx (.cells #[.int .u8 a0, .int .u8 a1, .int .u8 a2] 48)] W → ((W.cell? ⟨g, k * 3, none⟩ = some (.int .i64 4) ∧ W.cell? ⟨g, k * 3 + 1, none⟩ = some (.int .i64 ((k : Int) + 1)) ∧ W.cell? ⟨g, k * 3 + 2, none⟩ = some (.string ⟨#[]⟩)) ∧ W.cell? ⟨bt, 0, none⟩ = some (.int .i64 4) ∧ W.cell? ⟨bt, 1, none⟩ = some (.int .i64 ((k : Int) + 1 + 1)) ∧ W.cell? ⟨bt, 2, none⟩ = some (.string ⟨#[]⟩))) := Lib.hid fun W Hx S => by
                    obtain ⟨y0, y1, y2⟩ := NC.out W [_] _ S k HLT.out
                    exact ⟨⟨y0, y1, y2⟩, cellAt (S.box 0 rfl) 0 rfl, cellAt (S.box 0 rfl) 1 rfl, cellAt (S.box 0 rfl) 2 rfl⟩
                  cases d with
                  | true =>
                    have PP : Hid (∀ W, Sep w [boxR bt (.cells #[.int .i64 4, .int .i64 ((k : Int) + 1 + 1), .string ⟨#[]⟩] 41), valsR (.slice (some ⟨g, 0, none⟩) NT.length lc) NT, heapR h H1, boxR bx (.cells #[.int .u8 a0, .int .u8 a1, .int .u8 a2] 48)] W → Calls Try.prog 28 #[.pointer (some ⟨h, 0, none⟩), .agg #[.int .i64 4, .int .i64 ((k : Int) + 1), .string ⟨#[]⟩], .agg #[.int .i64 3, .int .i64 0, .string ⟨#[110, 101, 120, 116]⟩], .agg #[.int .i64 4, .int .i64 ((k : Int) + 1 + 1), .string ⟨#[]⟩]] W fun e W' => (∃ b, e = .returned (.bool b)) ∧ Sep w [boxR bt (.cells #[.int .i64 4, .int .i64 ((k : Int) + 1 + 1), .string ⟨#[]⟩] 41), valsR (.slice (some ⟨g, 0, none⟩) NT.length lc) NT, heapR h (RG.ring m T true (k + 1)), boxR bx (.cells #[.int .u8 a0, .int .u8 a1, .int .u8 a2] 48)] W') := Lib.hid fun W S => by
                      have := putn S 2 rfl k (k + 1) (by omega) (by omega)
                      have e1 := HSTEP.out
                      rw [if_pos rfl] at e1
                      rw [e1] at this
                      exact this.mono fun e W' ⟨x1, x2⟩ => ⟨⟨_, x1⟩, x2⟩
                    clear hstep
                    go_upto_region 22 with fail
                    have T0 := SE.out
                    clear SE
                    go_region_held3 (fun W => (W.cell? ⟨g, k * 3, none⟩ = some (.int .i64 4) ∧ W.cell? ⟨g, k * 3 + 1, none⟩ = some (.int .i64 ((k : Int) + 1)) ∧ W.cell? ⟨g, k * 3 + 2, none⟩ = some (.string ⟨#[]⟩)) ∧ W.cell? ⟨bt, 0, none⟩ = some (.int .i64 4) ∧ W.cell? ⟨bt, 1, none⟩ = some (.int .i64 ((k : Int) + 1 + 1)) ∧ W.cell? ⟨bt, 2, none⟩ = some (.string ⟨#[]⟩))
                      (first | exact KK.out _ _ (Sep.drew (by assumption)) | exact KK.out _ _ (by assumption))
                      (first | (go_at_call 28; refine (PP.out _ (by first | assumption | exact Sep.drew (by assumption))).mono ?_; rintro e w8 ⟨⟨bb, rfl⟩, T1⟩))
                    all_goals
                      go_wp2
                      exact ⟨⟨k + 1, HLT.out, by go_num, Sep.tail (by assumption)⟩, round_end HLT.out⟩
                  | false =>
                    have PR : Hid (∀ W bs, Sep w [boxR bs (.cells #[.int .i64 4, .int .i64 ((k : Int) + 1 + 1), .string ⟨#[]⟩] 41), boxR bt (.cells #[.int .i64 4, .int .i64 ((k : Int) + 1 + 1), .string ⟨#[]⟩] 41), valsR (.slice (some ⟨g, 0, none⟩) NT.length lc) NT, heapR h H1, boxR bx (.cells #[.int .u8 a0, .int .u8 a1, .int .u8 a2] 48)] W → Calls Try.prog 27 #[.pointer (some ⟨h, 0, none⟩), .agg #[.int .i64 4, .int .i64 ((k : Int) + 1), .string ⟨#[]⟩], .int .i64 0, .int .i64 0, .slice (some ⟨bs, 0, none⟩) 1 1] W fun e W' => (∃ b, e = .returned (.bool b)) ∧ Sep w [boxR bt (.cells #[.int .i64 4, .int .i64 ((k : Int) + 1 + 1), .string ⟨#[]⟩] 41), valsR (.slice (some ⟨g, 0, none⟩) NT.length lc) NT, heapR h (RG.ring m T false (k + 1)), boxR bx (.cells #[.int .u8 a0, .int .u8 a1, .int .u8 a2] 48)] W') := Lib.hid fun W bs S => by
                      have := rep S 3 rfl F1.out (by omega) k (k + 1) bs (by omega) (by omega) (S.box 0 rfl)
                      have e1 := HSTEP.out
                      rw [if_neg (by simp)] at e1
                      rw [e1] at this
                      exact this.mono fun e W' ⟨x1, x2⟩ => ⟨⟨_, x1⟩, x2.tail⟩
                    clear hstep
                    go_upto_region 23 with fail
                    obtain ⟨wc, hwc⟩ : ∃ wc, w8 = wc := ⟨_, rfl⟩
                    obtain ⟨bs, hbs⟩ : ∃ bs, wc.heap.size = bs := ⟨_, rfl⟩
                    subst hwc
                    have T0 := SE.out
                    have T2 := T0.alloc (.cells #[.int .i64 4, .int .i64 ((k : Int) + 1 + 1), .string ⟨#[]⟩] 41)
                    rw [hbs] at T2
                    clear SE 
                    go_region_held3 (fun W => (W.cell? ⟨g, k * 3, none⟩ = some (.int .i64 4) ∧ W.cell? ⟨g, k * 3 + 1, none⟩ = some (.int .i64 ((k : Int) + 1)) ∧ W.cell? ⟨g, k * 3 + 2, none⟩ = some (.string ⟨#[]⟩)) ∧ W.cell? ⟨bt, 0, none⟩ = some (.int .i64 4) ∧ W.cell? ⟨bt, 1, none⟩ = some (.int .i64 ((k : Int) + 1 + 1)) ∧ W.cell? ⟨bt, 2, none⟩ = some (.string ⟨#[]⟩))
                      (first | exact KK.out _ _ (Sep.drew (by assumption)) | exact KK.out _ _ (by assumption) | exact KK.out _ _ (Sep.drew (Sep.tail (by assumption))) | exact KK.out _ _ (Sep.tail (by assumption)))
                      (first | (go_at_call 27; refine (PR.out _ _ (Sep.drew (by assumption))).mono ?_; rintro e w8 ⟨⟨bb, rfl⟩, T1⟩))
                    all_goals
                      go_wp2
                      exact ⟨⟨k + 1, HLT.out, by go_num, Sep.tail (by assumption)⟩, round_end HLT.out⟩
              · have ht2 : t = 0 := by
                  have : ((k : Int) + 1) % m = 0 := by rw [show (k : Int) + 1 = m by omega]; exact Int.emod_self
                  omega
                subst ht2
                have hC1 : (m : Int) - 1 ≤ k := by omega
                have hC2 : ¬ (k : Int) + 1 < T := by omega
                have hC3 : ((k : Int) == (m : Int) - 1) = true := by simp; omega
                have hC4 : ¬ (m : Int) ≤ k := by omega
                have hC5 : ((q : Int) == 0) = true := by have := HH.out; simp; omega
                have hC9 : (k : Int) + 1 ≤ 100 := by have := HH.out; omega
                have em1 : wrap64 ((m : Int) - 1) = (m : Int) - 1 := by have := HH.out; exact wrap64_id _ (by omega)
                have F0 : Hid ((RG.ring m T d k).Fit 200) := Lib.hid ((RG.ring_fit (d := d) (by have := HH.out; omega) (by have := HH.out; omega) k (by have := HLT.out; omega)).more (by have := HH.out; have := HLT.out; omega))
                obtain ⟨H1, hH1⟩ : ∃ H1, RG.st1 m (RG.ring m T d k) k = H1 := ⟨_, rfl⟩
                have HST : Hid (RG.st1 m (RG.ring m T d k) k = H1) := Lib.hid hH1
                have HST0 : Hid ((RG.ring m T d k).replace (RG.node k) 0 0 [RG.node 0] = H1) := Lib.hid (by rw [← hH1]; unfold RG.st1; rw [if_pos (by omega)])
                have F1 : Hid (H1.Fit 201) := Lib.hid (by rw [← HST0.out]; exact F0.out.replace _ 0 0 [_])
                clear hH1
                have SE := S6.out.alloc (.cells #[.int .i64 4, .int .i64 (1), .string ⟨#[]⟩] 41)
                obtain ⟨bt, hbt⟩ : ∃ bt, wr.heap.size = bt := ⟨_, rfl⟩
                rw [hbt] at SE
                replace SE := Lib.hid SE
                clear S6
                have KK0 : Hid (∀ W (B : Res) Hx, Sep w [B, valsR (.slice (some ⟨g, 0, none⟩) NT.length lc) NT, heapR h Hx, boxR bx (.cells #[.int .u8 a0, .int .u8 a1, .int .u8 a2] 48)] W → ((W.cell? ⟨g, k * 3, none⟩ = some (.int .i64 4) ∧ W.cell? ⟨g, k * 3 + 1, none⟩ = some (.int .i64 ((k : Int) + 1)) ∧ W.cell? ⟨g, k * 3 + 2, none⟩ = some (.string ⟨#[]⟩)) ∧ W.cell? ⟨g, 0, none⟩ = some (.int .i64 4) ∧ W.cell? ⟨g, 1, none⟩ = some (.int .i64 1) ∧ W.cell? ⟨g, 2, none⟩ = some (.string ⟨#[]⟩))) := Lib.hid fun W B Hx S => by
                  obtain ⟨y0, y1, y2⟩ := NC.out W [_] _ S k HLT.out
                  obtain ⟨x0, x1, x2⟩ := NC.out W [_] _ S 0 (by have := HLT.out; omega)
                  exact ⟨⟨y0, y1, y2⟩, by simpa using x0, by simpa using x1, by simpa using x2⟩
                have PR0 : Hid (∀ W bs, Sep w [boxR bs (.cells #[.int .i64 4, .int .i64 (1), .string ⟨#[]⟩] 41), boxR bt (.cells #[.int .i64 4, .int .i64 (1), .string ⟨#[]⟩] 41), valsR (.slice (some ⟨g, 0, none⟩) NT.length lc) NT, heapR h (RG.ring m T d k), boxR bx (.cells #[.int .u8 a0, .int .u8 a1, .int .u8 a2] 48)] W → Calls Try.prog 27 #[.pointer (some ⟨h, 0, none⟩), .agg #[.int .i64 4, .int .i64 ((k : Int) + 1), .string ⟨#[]⟩], .int .i64 0, .int .i64 0, .slice (some ⟨bs, 0, none⟩) 1 1] W fun e W' => (∃ b, e = .returned (.bool b)) ∧ Sep w [boxR bt (.cells #[.int .i64 4, .int .i64 (1), .string ⟨#[]⟩] 41), valsR (.slice (some ⟨g, 0, none⟩) NT.length lc) NT, heapR h H1, boxR bx (.cells #[.int .u8 a0, .int .u8 a1, .int .u8 a2] 48)] W') := Lib.hid fun W bs S => by
                  have := rep S 3 rfl F0.out (by omega) k 0 bs (by have := HH.out; have := HLT.out; omega) (by omega) (S.box 0 rfl)
                  rw [HST0.out] at this
                  exact this.mono fun e W' ⟨x1, x2⟩ => ⟨⟨_, x1⟩, x2.tail⟩
                go_upto_region 19 with fail
                obtain ⟨wc, hwc⟩ : ∃ wc, wr.alloc (.cells #[.int .i64 4, .int .i64 (1), .string ⟨#[]⟩] 41) = wc := ⟨_, rfl⟩
                obtain ⟨bs, hbs⟩ : ∃ bs, wc.heap.size = bs := ⟨_, rfl⟩
                rw [hwc] at SE ⊢
                have T0 := SE.out
                have T2 := T0.alloc (.cells #[.int .i64 4, .int .i64 (1), .string ⟨#[]⟩] 41)
                rw [hbs] at T2
                clear SE hwc hbt
                go_region_held3 (fun W => (W.cell? ⟨g, k * 3, none⟩ = some (.int .i64 4) ∧ W.cell? ⟨g, k * 3 + 1, none⟩ = some (.int .i64 ((k : Int) + 1)) ∧ W.cell? ⟨g, k * 3 + 2, none⟩ = some (.string ⟨#[]⟩)) ∧ W.cell? ⟨g, 0, none⟩ = some (.int .i64 4) ∧ W.cell? ⟨g, 1, none⟩ = some (.int .i64 1) ∧ W.cell? ⟨g, 2, none⟩ = some (.string ⟨#[]⟩))
                  (first | exact KK0.out _ _ _ (Sep.drew (by assumption)) | exact KK0.out _ _ _ (by assumption) | exact KK0.out _ _ _ (Sep.drew (Sep.tail (by assumption))) | exact KK0.out _ _ _ (Sep.tail (by assumption)))
                  (first | (go_at_call 27; refine (PR0.out _ _ (Sep.drew (by assumption))).mono ?_; rintro e w8 ⟨⟨bb, rfl⟩, T1⟩))
                all_goals
                  have hfin := RG.step_ring (m := m) (d := d) HLT.out (by have := HH.out; omega) (by have := HH.out; omega)
                  unfold RG.step at hfin
                  rw [if_neg (by omega), HST.out] at hfin
                  have HF := Lib.hid hfin
                  clear hfin
                  go_wp2
                  exact ⟨⟨k + 1, HLT.out, by go_num, by rw [← HF.out]; exact Sep.tail (by assumption)⟩, round_end HLT.out⟩
            · by_cases cT : k + 1 < T
              · have hC1 : (m : Int) - 1 ≤ k := by omega
                have hC2 : (k : Int) + 1 < T := by omega
                have hC3 : ((k : Int) == (m : Int) - 1) = false := by simp; omega
                have hC4 : (m : Int) ≤ k := by omega
                have hC5 : ((k : Int) + 1 == (T : Int)) = false := by simp; omega
                have hC6 : (k : Int) + 1 ≤ 100 := by have := HH.out; omega
                have hC9 : (k : Int) + 1 ≤ 100 := by have := HH.out; omega
                have em1 : wrap64 ((m : Int) - 1) = (m : Int) - 1 := by have := HH.out; exact wrap64_id _ (by omega)
                have HK1 : Hid (k + 1 < T) := Lib.hid (by omega)
                have HST : Hid (RG.st1 m (RG.ring m T d k) k = RG.ring m T d k) := Lib.hid (by unfold RG.st1; rw [if_neg (by omega)])
                have F1 : Hid ((RG.ring m T d k).Fit 200) := Lib.hid ((RG.ring_fit (d := d) (by have := HH.out; omega) (by have := HH.out; omega) k (by have := HLT.out; omega)).more (by have := HH.out; have := HLT.out; omega))
                obtain ⟨z0, z1, z2⟩ := NC.out (wr.alloc (.cells #[.int .i64 4, .int .i64 ((t : Int) + 1), .string ⟨#[]⟩] 41)) [_] _ (S6.out.alloc (.cells #[.int .i64 4, .int .i64 ((t : Int) + 1), .string ⟨#[]⟩] 41)) (k + 1) (by omega)
                have hcast : ((k + 1 : Nat) : Int) = (k : Int) + 1 := by omega
                rw [hcast] at z1
                have SE := S6.out.alloc (.cells #[.int .i64 4, .int .i64 ((k : Int) + 1 + 1), .string ⟨#[]⟩] 41)
                obtain ⟨bt, hbt⟩ : ∃ bt, wr.heap.size = bt := ⟨_, rfl⟩
                rw [hbt] at SE
                obtain ⟨H1, hH1⟩ : ∃ H1, RG.ring m T d k = H1 := ⟨_, rfl⟩
                rw [hH1] at SE F1
                replace HST : Hid (RG.st1 m (RG.ring m T d k) k = H1) := Lib.hid (by rw [HST.out, hH1])
                clear hH1
                replace SE := Lib.hid SE
                clear S6
                have hkT2 : k + 1 < T := HK1.out
                have hT35 : T ≤ 35 := by have := HH.out; omega
                have hstep := RG.step_ring (m := m) (d := d) HLT.out (by omega) (by have := HH.out; omega)
                unfold RG.step at hstep
                rw [if_pos hkT2, HST.out] at hstep
                have HSTEP := Lib.hid hstep
                have KK : Hid (∀ W Hx, Sep w [boxR bt (.cells #[.int .i64 4, .int .i64 ((k : Int) + 1 + 1), .string ⟨#[]⟩] 41), valsR (.slice (some ⟨g, 0, none⟩) NT.length lc) NT, heapR h Hx, boxR bx (.cells #[.int .u8 a0, .int .u8 a1, .int .u8 a2] 48)] W → ((W.cell? ⟨g, k * 3, none⟩ = some (.int .i64 4) ∧ W.cell? ⟨g, k * 3 + 1, none⟩ = some (.int .i64 ((k : Int) + 1)) ∧ W.cell? ⟨g, k * 3 + 2, none⟩ = some (.string ⟨#[]⟩)) ∧ W.cell? ⟨bt, 0, none⟩ = some (.int .i64 4) ∧ W.cell? ⟨bt, 1, none⟩ = some (.int .i64 ((k : Int) + 1 + 1)) ∧ W.cell? ⟨bt, 2, none⟩ = some (.string ⟨#[]⟩))) := Lib.hid fun W Hx S => by
                  obtain ⟨y0, y1, y2⟩ := NC.out W [_] _ S k HLT.out
                  exact ⟨⟨y0, y1, y2⟩, cellAt (S.box 0 rfl) 0 rfl, cellAt (S.box 0 rfl) 1 rfl, cellAt (S.box 0 rfl) 2 rfl⟩
                cases d with
                | true =>
                  have PP : Hid (∀ W, Sep w [boxR bt (.cells #[.int .i64 4, .int .i64 ((k : Int) + 1 + 1), .string ⟨#[]⟩] 41), valsR (.slice (some ⟨g, 0, none⟩) NT.length lc) NT, heapR h H1, boxR bx (.cells #[.int .u8 a0, .int .u8 a1, .int .u8 a2] 48)] W → Calls Try.prog 28 #[.pointer (some ⟨h, 0, none⟩), .agg #[.int .i64 4, .int .i64 ((k : Int) + 1), .string ⟨#[]⟩], .agg #[.int .i64 3, .int .i64 0, .string ⟨#[110, 101, 120, 116]⟩], .agg #[.int .i64 4, .int .i64 ((k : Int) + 1 + 1), .string ⟨#[]⟩]] W fun e W' => (∃ b, e = .returned (.bool b)) ∧ Sep w [boxR bt (.cells #[.int .i64 4, .int .i64 ((k : Int) + 1 + 1), .string ⟨#[]⟩] 41), valsR (.slice (some ⟨g, 0, none⟩) NT.length lc) NT, heapR h (RG.ring m T true (k + 1)), boxR bx (.cells #[.int .u8 a0, .int .u8 a1, .int .u8 a2] 48)] W') := Lib.hid fun W S => by
                    have := putn S 2 rfl k (k + 1) (by omega) (by omega)
                    have e1 := HSTEP.out
                    rw [if_pos rfl] at e1
                    rw [e1] at this
                    exact this.mono fun e W' ⟨x1, x2⟩ => ⟨⟨_, x1⟩, x2⟩
                  clear hstep
                  go_upto_region 22 with fail
                  have T0 := SE.out
                  clear SE
                  go_region_held3 (fun W => (W.cell? ⟨g, k * 3, none⟩ = some (.int .i64 4) ∧ W.cell? ⟨g, k * 3 + 1, none⟩ = some (.int .i64 ((k : Int) + 1)) ∧ W.cell? ⟨g, k * 3 + 2, none⟩ = some (.string ⟨#[]⟩)) ∧ W.cell? ⟨bt, 0, none⟩ = some (.int .i64 4) ∧ W.cell? ⟨bt, 1, none⟩ = some (.int .i64 ((k : Int) + 1 + 1)) ∧ W.cell? ⟨bt, 2, none⟩ = some (.string ⟨#[]⟩))
                    (first | exact KK.out _ _ (Sep.drew (by assumption)) | exact KK.out _ _ (by assumption))
                    (first | (go_at_call 28; refine (PP.out _ (by first | assumption | exact Sep.drew (by assumption))).mono ?_; rintro e w8 ⟨⟨bb, rfl⟩, T1⟩))
                  all_goals
                    go_wp2
                    exact ⟨⟨k + 1, HLT.out, by go_num, Sep.tail (by assumption)⟩, round_end HLT.out⟩
                | false =>
                  have PR : Hid (∀ W bs, Sep w [boxR bs (.cells #[.int .i64 4, .int .i64 ((k : Int) + 1 + 1), .string ⟨#[]⟩] 41), boxR bt (.cells #[.int .i64 4, .int .i64 ((k : Int) + 1 + 1), .string ⟨#[]⟩] 41), valsR (.slice (some ⟨g, 0, none⟩) NT.length lc) NT, heapR h H1, boxR bx (.cells #[.int .u8 a0, .int .u8 a1, .int .u8 a2] 48)] W → Calls Try.prog 27 #[.pointer (some ⟨h, 0, none⟩), .agg #[.int .i64 4, .int .i64 ((k : Int) + 1), .string ⟨#[]⟩], .int .i64 0, .int .i64 0, .slice (some ⟨bs, 0, none⟩) 1 1] W fun e W' => (∃ b, e = .returned (.bool b)) ∧ Sep w [boxR bt (.cells #[.int .i64 4, .int .i64 ((k : Int) + 1 + 1), .string ⟨#[]⟩] 41), valsR (.slice (some ⟨g, 0, none⟩) NT.length lc) NT, heapR h (RG.ring m T false (k + 1)), boxR bx (.cells #[.int .u8 a0, .int .u8 a1, .int .u8 a2] 48)] W') := Lib.hid fun W bs S => by
                    have := rep S 3 rfl F1.out (by omega) k (k + 1) bs (by omega) (by omega) (S.box 0 rfl)
                    have e1 := HSTEP.out
                    rw [if_neg (by simp)] at e1
                    rw [e1] at this
                    exact this.mono fun e W' ⟨x1, x2⟩ => ⟨⟨_, x1⟩, x2.tail⟩
                  clear hstep
                  go_upto_region 23 with fail
                  obtain ⟨wc, hwc⟩ : ∃ wc, wr.alloc (.cells #[.int .i64 4, .int .i64 ((k : Int) + 1 + 1), .string ⟨#[]⟩] 41) = wc := ⟨_, rfl⟩
                  obtain ⟨bs, hbs⟩ : ∃ bs, wc.heap.size = bs := ⟨_, rfl⟩
                  rw [hwc] at SE ⊢
                  have T0 := SE.out
                  have T2 := T0.alloc (.cells #[.int .i64 4, .int .i64 ((k : Int) + 1 + 1), .string ⟨#[]⟩] 41)
                  rw [hbs] at T2
                  clear SE hwc hbt
                  go_region_held3 (fun W => (W.cell? ⟨g, k * 3, none⟩ = some (.int .i64 4) ∧ W.cell? ⟨g, k * 3 + 1, none⟩ = some (.int .i64 ((k : Int) + 1)) ∧ W.cell? ⟨g, k * 3 + 2, none⟩ = some (.string ⟨#[]⟩)) ∧ W.cell? ⟨bt, 0, none⟩ = some (.int .i64 4) ∧ W.cell? ⟨bt, 1, none⟩ = some (.int .i64 ((k : Int) + 1 + 1)) ∧ W.cell? ⟨bt, 2, none⟩ = some (.string ⟨#[]⟩))
                    (first | exact KK.out _ _ (Sep.drew (by assumption)) | exact KK.out _ _ (by assumption) | exact KK.out _ _ (Sep.drew (Sep.tail (by assumption))) | exact KK.out _ _ (Sep.tail (by assumption)))
                    (first | (go_at_call 27; refine (PR.out _ _ (Sep.drew (by assumption))).mono ?_; rintro e w8 ⟨⟨bb, rfl⟩, T1⟩))
                  all_goals
                    go_wp2
                    exact ⟨⟨k + 1, HLT.out, by go_num, Sep.tail (by assumption)⟩, round_end HLT.out⟩
              · have hC1 : (m : Int) - 1 ≤ k := by omega
                have hC2 : ¬ (k : Int) + 1 < T := by omega
                have hC3 : ((k : Int) == (m : Int) - 1) = false := by simp; omega
                have hC4 : (m : Int) ≤ k := by omega
                have hC5 : ((k : Int) + 1 == (T : Int)) = true := by simp; omega
                have hC9 : (k : Int) + 1 ≤ 100 := by have := HH.out; omega
                have em1 : wrap64 ((m : Int) - 1) = (m : Int) - 1 := by have := HH.out; exact wrap64_id _ (by omega)
                have hfin := RG.step_ring (m := m) (d := d) HLT.out (by have := HH.out; omega) (by have := HH.out; omega)
                unfold RG.step at hfin
                rw [if_neg (by omega)] at hfin
                unfold RG.st1 at hfin
                rw [if_neg (by omega)] at hfin
                have HF := Lib.hid hfin
                have SE := Lib.hid ((S6.out.alloc (.cells #[.int .i64 4, .int .i64 ((t : Int) + 1), .string ⟨#[]⟩] 41)).tail)
                clear S6 hfin
                go_wp2
                exact ⟨⟨k + 1, HLT.out, by go_num, by rw [← HF.out]; exact SE.out⟩, round_end HLT.out⟩
        · have hkT : k = T := by omega
          subst hkT
          have hlti : ¬ (k : Int) < k := by omega
          have FT : Hid ((RG.ring m k d k).Fit 200) := Lib.hid ((RG.ring_fit (d := d) (by have := HH.out; omega) (by have := HH.out; omega) k (by omega)).more (by have := HH.out; omega))
          have PL : Hid ((RG.ring m k d k).sweep [] = RG.ring m k d k ∧ (∀ j, j < m → (RG.ring m k d k).collect [RG.node j] = RG.ring m k d k) ∧ ((RG.ring m k d k).garbageM []).length = k ∧ (RG.ring m k d k).collect [] = ⟨[], k⟩ ∧ (RG.ring m k d k).objs.length = k ∧ (RG.ring m k d k).live 6 = k) := Lib.hid ⟨RG.sweep_same (by have := HH.out; omega) (by have := HH.out; omega), fun j hj => RG.collect_same FT.out.G (by have := HH.out; omega) (by have := HH.out; omega) hj, RG.garbage_all FT.out.G (by have := HH.out; omega) (by have := HH.out; omega), RG.collect_none FT.out.G, RG.ring_len, RG.ring_live6⟩
          have hk35 : (k : Int) ≤ 35 := by have := HH.out; omega
          obtain ⟨j, hj⟩ : ∃ j : Nat, j = a1 % m := ⟨_, rfl⟩
          have hjm : j < m := by rw [hj]; exact Nat.mod_lt _ (by have := HH.out; omega)
          have hjk : (j : Int) < k := by have := HH.out; omega
          have hji : (a1 : Int) % m = j := by rw [hj]; simp
          have hj0 : (0 : Int) ≤ j := by omega
          have hm0 : (0 : Int) < m := by omega
          have hm00 : ((m : Int) == 0) = false := by simp; omega
          have hm01 : ¬ (m : Int) = 0 := by omega
          obtain ⟨HR, hHR⟩ : ∃ HR, RG.ring m k d k = HR := ⟨_, rfl⟩
          rw [hHR] at S6 FT PL
          have HJ := Lib.hid (And.intro hjm hjk)
          have C1 := S6.sweep 1 rfl FT.out.G (by omega) (.slice none 0 0) [] (sees_none _) ArgS.nil (by simp)
          rw [PL.out.1] at C1
          replace C1 := Lib.hid C1
          clear hHR hlt hj hjm S6 hk
          go_wp2_with fail
          refine C1.out.mono ?_
          rintro e w10 ⟨⟨f, rfl, hf⟩, S10⟩
          obtain rfl : f = 0 := by omega
          replace S10 : Sep w [valsR (.slice (some ⟨g, 0, none⟩) NT.length lc) NT, heapR h HR, boxR bx (.cells #[.int .u8 a0, .int .u8 a1, .int .u8 a2] 48)] w10 := S10
          obtain ⟨j0, j1, j2⟩ := NC.out w10 [] _ S10 j (by have := HJ.out; omega)
          have x1 := cellAt (S10.box 2 rfl) 1 (v := .int .u8 a1) rfl
          have S11 := S10.alloc (.cells #[.int .i64 4, .int .i64 ((j : Int) + 1), .string ⟨#[]⟩] 41)
          obtain ⟨bh, hbh⟩ : ∃ bh, w10.heap.size = bh := ⟨_, rfl⟩
          rw [hbh] at S11
          have y0 := cellAt (S11.box 0 rfl) 0 (v := .int .i64 4) rfl
          have y1 := cellAt (S11.box 0 rfl) 1 (v := .int .i64 ((j : Int) + 1)) rfl
          have y2 := cellAt (S11.box 0 rfl) 2 (v := .string ⟨#[]⟩) rfl
          have S12 := S11.alloc (.cells #[.int .i64 4, .int .i64 ((j : Int) + 1), .string ⟨#[]⟩] 41)
          rw [World.size_alloc, hbh] at S12
          have C2 := collect_ok S12 3 h rfl FT.out.G (by omega) FT.out.K (some ⟨bh + 1, 0, none⟩) 1 [RG.node j] (by simp) (fun H' W' S' => sees_one (RG.node j) rfl (RG.node_n (by have := HH.out; have := HJ.out; omega)) rfl (S'.box 0 rfl)) (fun W' => ArgS.box 0 (by decide) rfl)
          rw [PL.out.2.1 j HJ.out.1, Int.sub_self, Int.sub_self] at C2
          replace C2 := Lib.hid C2
          clear C1 S10 S11 S12 hf
          go_wp2_with fail
          refine C2.out.mono ?_
          rintro e w13 ⟨rfl, S13⟩
          replace S13 : Sep w [valsR (.slice (some ⟨g, 0, none⟩) NT.length lc) NT, heapR h HR, boxR bx (.cells #[.int .u8 a0, .int .u8 a1, .int .u8 a2] 48)] w13 := S13.tail.tail
          have C3 := Lib.hid (S13.garbageN 1 rfl FT.out (by omega) (.slice none 0 0) [] (sees_none _) (by simp))
          clear C2 S13 j0 j1 j2 x1 y0 y1 y2 hbh
          go_wp2_with fail
          refine C3.out.mono ?_
          rintro e w14 ⟨gv, rfl, S14⟩
          obtain ⟨ga, gc, rfl⟩ := (S14.row 0 rfl).form
          have hgl := PL.out.2.2.1
          obtain ⟨GL, hGL⟩ : ∃ GL, HR.garbageM [] = GL := ⟨_, rfl⟩
          rw [hGL] at S14 hgl ⊢
          replace S14 : Sep w [valsR (.slice (some ⟨g, 0, none⟩) NT.length lc) NT, heapR h HR, boxR bx (.cells #[.int .u8 a0, .int .u8 a1, .int .u8 a2] 48)] w14 := S14.tail
          have C4 := collect_ok S14 1 h rfl FT.out.G (by omega) FT.out.K none 0 [] (by simp) (fun H' W' S' => sees_none W') (fun W' => ArgS.nil)
          rw [PL.out.2.2.2.1, PL.out.2.2.2.2.1, PL.out.2.2.2.2.2, show ((⟨[], (k : Int)⟩ : HeapM).objs.length : Int) = 0 from rfl, show ((⟨[], (k : Int)⟩ : HeapM).live 6 : Int) = 0 from rfl, Int.sub_zero] at C4
          replace C4 := Lib.hid C4
          have HGL := Lib.hid hgl
          clear C3 S14 hGL hgl
          rw [HGL.out]
          go_wp2_with fail
          refine C4.out.mono ?_
          rintro e w15 ⟨rfl, S15⟩
          replace S15 : Sep w [valsR (.slice (some ⟨g, 0, none⟩) NT.length lc) NT, heapR h ⟨[], (k : Int)⟩, boxR bx (.cells #[.int .u8 a0, .int .u8 a1, .int .u8 a2] 48)] w15 := S15
          have GE : (⟨[], (k : Int)⟩ : HeapM).Good 200 := by
            have := FT.out.G.collect (E := [])
            rwa [PL.out.2.2.2.1] at this
          have C5 := S15.live 1 rfl GE (by omega) 0
          rw [show ((⟨[], (k : Int)⟩ : HeapM).live 0 : Int) = 0 from rfl] at C5
          replace C5 := Lib.hid C5
          clear C4 S15 GE
          go_wp2_with fail
          refine C5.out.mono ?_
          rintro e w16 ⟨rfl, S16, -⟩
          have B := Lib.hid S16.below
          clear C5 S16
          go_wp2
          exact bodyPost_ret (v := .bool true) (by simp [results, Try.results6, go_sem]) rfl ⟨rfl, B.out⟩
set_option maxRecDepth 100000 in
theorem lifted (os : Os) (started : os.Started) (H : Type) (enc : TypeId × Value → H) :
    ReturnsInHanded {} Try.checked os 6 .any (Rows.collectRingSpec.pre6 enc Try.prog Try.f6 Rows.collectRingRow.domain false) (Rows.collectRingSpec.post enc Try.prog Try.f6 false true false false) := by
  refine law_lift (C := Try.checked) own started (by kernel_rfl) Try.func6
    (ChangeSpec.witness6 (enc := enc) (C := Try.checked) false ⟨#[], #[.agg #[.int .u8 0, .int .u8 0, .int .u8 0], .bool false], []⟩ 8 (by kernel_rfl) (by kernel_rfl) (by kernel_rfl) (by kernel_rfl))
    (by kernel_rfl) (by kernel_rfl) rfl (fun ds h => by
      match ds, h with
      | [d1, d2], _ => exact ⟨rfl, rfl, rfl⟩) rfl Try.underlying4 ?_
  intro W base args ds ps hval hA hlt hwt hsh
  rw [Try.params6] at hA hval
  obtain ⟨v0, vs0, d0, ds0, p0, q0, hargs, rfl, rfl, h0, r0⟩ := trodAll_cons hA
  obtain ⟨v1, vs1, d1, ds1, p1, q1, rfl, rfl, rfl, h1, r1⟩ := trodAll_cons r0
  obtain ⟨rfl, rfl, rfl⟩ := trodAll_nil r1
  obtain rfl : args = #[v0, v1] := by cases args; simp_all
  obtain ⟨cs0, rfl, hsz0⟩ := okWide_array Try.underlying48 (hval 0 48 v0 rfl rfl)
  obtain ⟨fuel0, hf0⟩ := h0
  obtain ⟨x0, e0, l0⟩ := edge_of_trod (cs := cs0.toList) hf0
  obtain rfl : cs0 = [.int .u8 (x0.1 : Int), .int .u8 (x0.2.1 : Int), .int .u8 (x0.2.2 : Int)].toArray := by rw [← e0]
  obtain ⟨b1, rfl, rfl, rfl⟩ := open_bool Try.underlying4 (hval 1 4 v1 rfl rfl) h1
  -- WALK
  exact walk W _ _ _ b1 l0.1 l0.2.1 l0.2.2
theorem proved : Rows.CollectRingSaid :=
  OpenClaim.holds_of_wide 6 Try.f6 rfl rfl rfl rfl rfl rfl rfl ⟨rfl, rfl, rfl, rfl, rfl⟩ rfl rfl rfl rfl rfl (by kernel_rfl) Try.func6 (by kernel_rfl)
    (of_decide_eq_true (by kernel_rfl)) (by unfold Func.isWrapper; first | (rw [if_pos (by decide +kernel)]; kernel_rfl) | (rw [if_neg (by decide +kernel)]; exact ⟨rfl, rfl⟩))
    (fun os started H enc _ => lifted os started H enc)
#print axioms proved
end Go.Proofs.Ytjinabglachglaa.collectRing
