/- The reference's heap: Keys, loose. -/
import Derived.Test.YtoancpjlkhijiaaGreatRef3
import Derived.Test.YtoancpjlkhijiaaGreatKeptM
namespace Go.Proofs.YtoancpjlkhijiaaGreat
set_option linter.unusedSimpArgs false
open Go.RowKit
set_option linter.unusedVariables false
theorem sees_val {W : World} {bk : Nat} (v : V) (h : W.heap[bk]? = some (.cells #[.int .i64 v.kind, .int .i64 v.n, .string v.s] 31)) : SeesV W (.slice (some ⟨bk, 0, none⟩) 1 1) [v] := by
  refine ⟨_, 1, rfl, by simp, by simp [maxLen], .inr ⟨bk, 0, rfl, fun i x hx => ?_⟩⟩
  match i, hx with
  | 0, hx => simp at hx; subst hx; exact ⟨cellAt h 0 rfl, cellAt h 1 rfl, cellAt h 2 rfl⟩
  | i + 1, hx => simp at hx
section
variable {w W : World} {r : Nat} {H : HeapM} {rows : List RRow} {sa : Option Addr} {sc : Nat}
set_option maxRecDepth 100000 in
set_option maxHeartbeats 1600000 in
theorem ref_keys (R : RefCells w r H rows sa sc) {N : Nat} (G : H.Good N) (hN : N ≤ 4000000) (v : V) :
    Calls Tryz.prog 48 #[.pointer (some ⟨r, 0, none⟩), v.val] w fun e W => ∃ sv, e = .returned sv ∧ Sep w [valsR sv ((H.pairs v).map (·.1))] W := by
  have HO := Lib.hid (R.of_ v)
  rcases of_cases R v with ⟨h1, h2⟩ | ⟨p, h1, h2, hat⟩
  · have hp : (H.pairs v).map (·.1) = [] := by unfold HeapM.pairs; rw [h1]; rfl
    rw [hp]
    rw [h2] at HO
    clear R h1 h2 hp
    simp only [V.val] at *
    go_enter Tryz.func48, Tryz.ntmps48
    go_wp2_with fail
    refine (HO.out _ (by (repeat (first | exact Below.refl _ _ | assumption | refine Below.drewN ?_ _ | refine Below.drew ?_ | refine Below.alloc ?_ (by (try simp only [World.size_alloc, size_drewN, size_setCell]); omega) _ | refine Below.setCell ?_ (by (try simp only [World.size_alloc, size_drewN, size_setCell]); omega) _)))).mono ?_
    rintro e w1 ⟨rfl, hb1⟩
    have hB : Below w.heap.size w w1 := by exact Below.next (by (repeat (first | exact Below.refl _ _ | assumption | refine Below.drewN ?_ _ | refine Below.drew ?_ | refine Below.alloc ?_ (by (try simp only [World.size_alloc, size_drewN, size_setCell]); omega) _ | refine Below.setCell ?_ (by (try simp only [World.size_alloc, size_drewN, size_setCell]); omega) _))) hb1 (by (try simp only [World.size_alloc, size_drew, size_drewN, size_setCell]); omega)
    have S := Lib.hid (Sep.start hB).madeVals
    clear hb1 hB HO
    go_wp2
    go_loopw [6] (fun out wr => Sep w [valsR out []] wr) (fun out _ => 0)
    case atStart => exact S.out
    case round =>
      clear S
      obtain ⟨oa, oc, rfl⟩ := (hrel.row 0 rfl).form
      have S2 := Lib.hid hrel
      clear hrel
      go_wp2
      go_ret
      exact ⟨_, rfl, S2.out⟩
  · have hpe : H.pairs v = p.o.pairs := by unfold HeapM.pairs; rw [h2]; rfl
    rw [hpe]
    rw [h1] at HO
    have hw : p.o.pairs.length ≤ N := by
      have h3 : p.o.vals.length ≤ H.weight := vals_le_weight (getL_mem (HeapM.of_some h2).2)
      have := G.wt
      unfold ObjM.vals at h3
      simp at h3; omega
    have hli2 : (p.o.pairs.length : Int) ≤ 4000000 := by omega
    obtain ⟨da, dc, hdv⟩ := hat.2.2.form
    have c5 := cellAt hat.1 5 (v := .slice da p.o.pairs.length dc) (by rw [← hdv]; rfl)
    have hD := hat.2.2
    rw [hdv] at hD
    have HD := Lib.hid (And.intro hD c5)
    clear R h1 h2 hat hw hpe hdv hD c5
    simp only [V.val] at *
    go_enter Tryz.func48, Tryz.ntmps48
    go_wp2_with fail
    refine (HO.out _ (by (repeat (first | exact Below.refl _ _ | assumption | refine Below.drewN ?_ _ | refine Below.drew ?_ | refine Below.alloc ?_ (by (try simp only [World.size_alloc, size_drewN, size_setCell]); omega) _ | refine Below.setCell ?_ (by (try simp only [World.size_alloc, size_drewN, size_setCell]); omega) _)))).mono ?_
    rintro e w1 ⟨rfl, hb1⟩
    have hB : Below w.heap.size w w1 := by exact Below.next (by (repeat (first | exact Below.refl _ _ | assumption | refine Below.drewN ?_ _ | refine Below.drew ?_ | refine Below.alloc ?_ (by (try simp only [World.size_alloc, size_drewN, size_setCell]); omega) _ | refine Below.setCell ?_ (by (try simp only [World.size_alloc, size_drewN, size_setCell]); omega) _))) hb1 (by (try simp only [World.size_alloc, size_drew, size_drewN, size_setCell]); omega)
    have S := Lib.hid (Sep.start hB).madeVals
    clear hb1 hB HO
    go_wp2
    go_loopw [6, 7] (fun out i wr => ∃ k : Nat, k ≤ p.o.pairs.length ∧ i = .int .i64 k ∧ Sep w [valsR out ((p.o.pairs.map (·.1)).take k)] wr) (fun _ i _ => p.o.pairs.length - (intOf i).toNat)
    case atStart => exact ⟨0, by omega, rfl, S.out⟩
    case round =>
      clear S
      obtain ⟨j, hj, rfl, S1⟩ := hrel
      obtain ⟨oa, oc, rfl⟩ := (S1.row 0 rfl).form
      have c5 := cellBelow HD.out.2 S1.below
      have hMl : ((p.o.pairs.map (·.1)).take j).length ≤ 4000000 := by simp; omega
      have hend : p.o.pairs.length ≤ j → (p.o.pairs.map (·.1)).take j = p.o.pairs.map (·.1) := fun h => by rw [List.take_of_length_le (by simpa using h)]
      have hnx := fun x (hx : p.o.pairs[j]? = some x) => (show (p.o.pairs.map (·.1)).take (j + 1) = (p.o.pairs.map (·.1)).take j ++ [x.1] by rw [List.take_add_one, List.getElem?_map, hx]; rfl)
      obtain ⟨M, hM⟩ : ∃ M, (p.o.pairs.map (·.1)).take j = M := ⟨_, rfl⟩
      rw [hM] at S1 hMl hend hnx ⊢
      by_cases hlt : j < p.o.pairs.length
      · have hltj : (j : Int) < p.o.pairs.length := by omega
        obtain ⟨y, hy⟩ : ∃ y, p.o.pairs[j]? = some y := ⟨p.o.pairs[j], by simp [hlt]⟩
        obtain ⟨g, rfl⟩ : ∃ g, da = some ⟨g, 0, none⟩ := by
          rcases HD.out.1.shape with ⟨h1, h2⟩ | ⟨g, cap, h1, _⟩
          · rw [h2] at hy; simp at hy
          · exact ⟨g, (Value.slice.inj h1).1⟩
        have d0 := cellBelow (HD.out.1.cell pairCells_len rfl hy (j := 0) (u := .int .i64 y.1.kind) rfl) S1.below
        have d1 := cellBelow (HD.out.1.cell pairCells_len rfl hy (j := 1) (u := .int .i64 y.1.n) rfl) S1.below
        have d2 := cellBelow (HD.out.1.cell pairCells_len rfl hy (j := 2) (u := .string y.1.s) rfl) S1.below
        rw [Nat.add_zero] at d0
        have HX := Lib.hid (And.intro (hnx y hy) (And.intro hlt hMl))
        have S2 := S1.alloc (.cells #[.int .i64 y.1.kind, .int .i64 y.1.n, .string y.1.s] 31)
        clear S1 hend hnx hlt hMl hM hy
        go_wp2_with (at_builtin; refine wpList_append_sep rfl _ _ rfl S2 1 rfl rfl _ [y.1] rfl (sees_val y.1 (S2.box 0 rfl)) (by have := HX.out.2.2; simp; omega) ?_)
        intro va vc w3 S4
        replace S4 := Lib.hid S4.tail
        clear S2 c5 d0 d1 d2
        go_wp2
        refine ⟨⟨j + 1, by have := HX.out.2.1; omega, by go_num, ?_⟩, by have := HX.out.2.1; simp [intOf]; omega⟩
        rw [HX.out.1]; simpa using S4.out
      · have hltj : ¬ (j : Int) < p.o.pairs.length := by omega
        have hf := hend (by omega)
        have S2 := Lib.hid S1
        have HF2 := Lib.hid hf
        clear S1 hend hnx hlt hMl hM hf
        go_wp2
        go_ret
        exact ⟨_, rfl, by rw [← HF2.out]; exact S2.out⟩
end
/-- Is an object held by nothing, and by none of these? -/
def looseB (H : HeapM) (E : List V) (p : Int × ObjM) : Bool := !(decide (0 < cnt (allVals H.objs) p.1) || E.any (isRef p.1))
def HeapM.looseM (H : HeapM) (E : List V) : Int := match H.objs.find? (looseB H E) with | some p => p.1 | none => 0
theorem any_step {E : List V} {n : Int} {z : Nat} {x : V} (h : E[z]? = some x) : (E.take (z + 1)).any (isRef n) = ((E.take z).any (isRef n) || (decide (x.kind = 4) && decide (x.n = n))) := by
  rw [List.take_add_one, h, List.any_append]; simp [isRef]
section
variable {w W : World} {r : Nat} {H : HeapM} {rows : List RRow} {sa : Option Addr} {sc : Nat}
set_option maxRecDepth 100000 in
set_option maxHeartbeats 3200000 in
theorem ref_loose (R : RefCells w r H rows sa sc) {N : Nat} (G : H.Good N) (hN : N ≤ 4000000) (sv : Value) (E : List V) (hs : SeesV w sv E) (hE : E.length ≤ 4000000) :
    Calls Tryz.prog 68 #[.pointer (some ⟨r, 0, none⟩), sv] w fun e W => e = .returned (.int .i64 (H.looseM E)) ∧ Below w.heap.size w W := by
  have HR := Lib.hid R
  have HG := Lib.hid G
  have hrl : rows.length ≤ 4000000 := by
    have h1 : rows.length = H.objs.length := by rw [R.objs]; simp
    have := G.len; omega
  have hrli : (rows.length : Int) ≤ 4000000 := by omega
  have hol : H.objs.length = rows.length := by rw [R.objs]; simp
  have HOL := Lib.hid hol
  obtain ⟨ea, ec, rfl, s1, s2, s3⟩ := hs
  have HS := Lib.hid s3
  have hEi : (E.length : Int) ≤ 4000000 := by omega
  clear R G hrl hol s1 s2 s3
  go_enter Tryz.func68, Tryz.ntmps68
  go_wp2
  go_loopw [5] (fun i wr => ∃ k : Nat, k ≤ rows.length ∧ i = .int .i64 k ∧ (∀ p ∈ H.objs.take k, looseB H E p = false) ∧ Sep w [] wr) (fun i _ => rows.length - (intOf i).toNat)
  case atStart => exact ⟨0, by omega, rfl, by simp, Sep.start (Below.refl _ _)⟩
  case round =>
    obtain ⟨k, hk, rfl, hno, S1⟩ := hrel
    have d0 := cellBelow HR.out.head S1.below
    by_cases hlt : k < rows.length
    · have hlti : (k : Int) < rows.length := by omega
      obtain ⟨q, hq⟩ : ∃ q, rows[k]? = some q := ⟨rows[k], by simp [hlt]⟩
      obtain ⟨g, rfl, e0, hat⟩ := HR.out.row k q hq
      have e1 := cellBelow e0 S1.below
      have f1 := cellBelow (cellAt hat.1 0 (v := .int .i64 q.n) rfl) S1.below
      have hqo : H.objs[k]? = some (q.n, q.o) := by rw [HR.out.objs, List.getElem?_map, hq]; rfl
      have hlive : (getL H.objs q.n).isSome = true := by rw [getL_of_mem HG.out.ok.nk (List.mem_of_getElem? hqo)]; rfl
      have hqk := (HeapM.keys_nums HG.out).ok HG.out hN q.n (List.mem_map.2 ⟨_, List.mem_of_getElem? hqo, rfl⟩)
      have S2 := S1.alloc (.cells #[.int .i64 4, .int .i64 q.n, .string ⟨#[]⟩] 31)
      obtain ⟨bv, hbv⟩ : ∃ bv, wr.heap.size = bv := ⟨_, rfl⟩
      rw [hbv] at S2
      have C := ref_count (HR.out.later S2.below) HG.out hN (V.ref q.n hqk)
      rw [HeapM.count_ref H q.n hqk hlive] at C
      have hfnd : looseB H E (q.n, q.o) = true → H.looseM E = q.n := fun h => by
        unfold HeapM.looseM
        rw [find_at hqo h hno]
      have hnext : looseB H E (q.n, q.o) = false → ∀ p ∈ H.objs.take (k + 1), looseB H E p = false := fun h p hp => by
        rw [List.take_add_one, hqo] at hp
        rcases List.mem_append.1 hp with h1 | h1
        · exact hno p h1
        · simp at h1; subst h1; exact h
      have hlb : looseB H E (q.n, q.o) = !(decide (0 < cnt (allVals H.objs) q.n) || E.any (isRef q.n)) := rfl
      obtain ⟨n, hn⟩ : ∃ n, q.n = n := ⟨_, rfl⟩
      obtain ⟨c, hc⟩ : ∃ c, cnt (allVals H.objs) q.n = c := ⟨_, rfl⟩
      rw [hc] at C hlb
      rw [hn] at hlb hfnd hnext
      rw [show (V.ref q.n hqk).val = .agg #[.int .i64 4, .int .i64 q.n, .string ⟨#[]⟩] from rfl, hn] at C
      rw [hn] at S2 f1
      have HX := Lib.hid (And.intro hfnd (And.intro hnext (And.intro hlb (And.intro hn hlt))))
      replace C := Lib.hid C
      replace S2 := Lib.hid S2
      clear S1 hno hq hqo hlive hat e0 hfnd hnext hlb hc hlt hn hqk
      go_wp2_with fail
      refine C.out.mono ?_
      rintro e w2 ⟨rfl, hb⟩
      have S3 := Lib.hid (S2.out.later hb)
      clear C S2 hb e1 f1 d0 hbv
      obtain ⟨b0, hb0⟩ : ∃ b0, decide (0 < c) = b0 := ⟨_, rfl⟩
      go_wp2
      rw [hb0] at HX
      rw [show (E.any (isRef n)) = ((E.take E.length).any (isRef n)) by rw [List.take_length]] at HX
      go_loopw [7, 8] (fun kp i wr => ∃ z : Nat, z ≤ E.length ∧ i = .int .i64 z ∧ kp = .bool (b0 || (E.take z).any (isRef n)) ∧ Sep w [boxR bv (.cells #[.int .i64 4, .int .i64 n, .string ⟨#[]⟩] 31)] wr) (fun _ i _ => E.length - (intOf i).toNat)
      case atStart => exact ⟨0, by omega, rfl, by rw [← hb0]; simp, S3.out⟩
      case round =>
        clear S3
        obtain ⟨z, hz, rfl, rfl, S4⟩ := hrel
        have v1 := cellAt (S4.box 0 rfl) 1 (v := .int .i64 n) rfl
        by_cases hlz : z < E.length
        · have hltz : (z : Int) < E.length := by omega
          obtain ⟨x, hx⟩ : ∃ x, E[z]? = some x := ⟨E[z], by simp [hlz]⟩
          obtain ⟨eg, eo, rfl, hcell⟩ := HS.out.resolve_left (fun h => by rw [h] at hlz; simp at hlz)
          obtain ⟨x0, x1, -⟩ := hcell z x hx
          have y0 := cellBelow x0 S4.below
          have y1 := cellBelow x1 S4.below
          have hst := any_step (n := n) hx
          obtain ⟨b, hb⟩ : ∃ b, (b0 || (E.take z).any (isRef n)) = b := ⟨_, rfl⟩
          rw [hb]
          have hst2 : (b0 || (E.take (z + 1)).any (isRef n)) = (b || (decide (x.kind = 4) && decide (x.n = n))) := by rw [hst, ← hb, Bool.or_assoc]
          have HT := Lib.hid (And.intro hst2 hlz)
          have S5 := Lib.hid S4
          clear S4 hst hst2 hb hcell x0 x1 hx hlz hb0
          cases b with
          | true =>
            go_wp2
            go_quiet (fail)
            go_wp2
            exact ⟨⟨z + 1, by have := HT.out.2; omega, by go_num, by rw [HT.out.1]; rfl, S5.out.drewN nq⟩, by have := HT.out.2; simp [intOf]; omega⟩
          | false =>
            by_cases h4 : x.kind = 4
            · have hq4 : (x.kind == 4) = true := by simpa using h4
              by_cases hn2 : x.n = n
              · have hqn : (x.n == n) = true := by simpa using hn2
                have hval : (false || (decide (x.kind = 4) && decide (x.n = n))) = true := by simp [h4, hn2]
                have HV := Lib.hid hval
                clear hval h4 hn2
                go_wp2
                go_quiet (fail)
                go_wp2
                exact ⟨⟨z + 1, by have := HT.out.2; omega, by go_num, by rw [HT.out.1, HV.out], S5.out.drewN nq⟩, by have := HT.out.2; simp [intOf]; omega⟩
              · have hqn : (x.n == n) = false := by simpa using hn2
                have hval : (false || (decide (x.kind = 4) && decide (x.n = n))) = false := by simp [hn2]
                have HV := Lib.hid hval
                clear hval h4 hn2
                go_wp2
                go_quiet (fail)
                go_wp2
                exact ⟨⟨z + 1, by have := HT.out.2; omega, by go_num, by rw [HT.out.1, HV.out], S5.out.drewN nq⟩, by have := HT.out.2; simp [intOf]; omega⟩
            · have hq4 : (x.kind == 4) = false := by simpa using h4
              have hval : (false || (decide (x.kind = 4) && decide (x.n = n))) = false := by simp [h4]
              have HV := Lib.hid hval
              clear hval h4
              go_wp2
              go_quiet (fail)
              go_wp2
              exact ⟨⟨z + 1, by have := HT.out.2; omega, by go_num, by rw [HT.out.1, HV.out], S5.out.drewN nq⟩, by have := HT.out.2; simp [intOf]; omega⟩
        · have hltz : ¬ (z : Int) < E.length := by omega
          obtain rfl : z = E.length := by omega
          have hlb := HX.out.2.2.1
          obtain ⟨b, hb⟩ : ∃ b, (b0 || (E.take E.length).any (isRef n)) = b := ⟨_, rfl⟩
          rw [hb] at hlb ⊢
          cases b with
          | true =>
            have hnn := HX.out.2.1 (by rw [hlb]; rfl)
            have HN := Lib.hid hnn
            have S5 := Lib.hid S4.tail
            clear S4 hlb hb hnn hlz hb0
            go_wp2
            exact ⟨⟨k + 1, by have := HX.out.2.2.2.2; omega, by go_num, HN.out, S5.out⟩, by have := HX.out.2.2.2.2; simp [intOf]; omega⟩
          | false =>
            have hnn := HX.out.1 (by rw [hlb]; rfl)
            have HN := Lib.hid hnn
            have B := Lib.hid S4.below
            clear S4 hlb hb hnn hlz hb0
            go_wp2
            go_ret
            rw [HN.out]
            exact ⟨rfl, B.out⟩
    · have hlti : ¬ (k : Int) < rows.length := by omega
      have hf : H.looseM E = 0 := by
        unfold HeapM.looseM
        rw [List.take_of_length_le (by rw [HOL.out]; omega)] at hno
        rw [List.find?_eq_none.2 (fun p hp => by rw [hno p hp]; simp)]
      have HF := Lib.hid hf
      have B := Lib.hid S1.below
      clear S1 hlt hno hf
      go_wp2
      go_ret
      rw [HF.out]
      exact ⟨rfl, B.out⟩
end
end Go.Proofs.YtoancpjlkhijiaaGreat
