/- The law's reached. -/
import Derived.Test.YtoancpjlkhijiaaIn
import Derived.Test.YtoancpjlkhijiaaSep
import Derived.Test.YtoancpjlkhijiaaMade
import Derived.Deep.RegionHeld3
namespace Go.Proofs.Ytoancpjlkhijiaa
set_option linter.unusedSimpArgs false
open Go.RowKit
set_option linter.unusedVariables false
def addNew (out r : List Int) : List Int := r.foldl (fun o n => if n ∈ o then o else o ++ [n]) out
theorem addNew_snoc (out r : List Int) (n : Int) : addNew out (r ++ [n]) = if n ∈ addNew out r then addNew out r else addNew out r ++ [n] := by unfold addNew; rw [List.foldl_append]; rfl
theorem addNew_len (out r : List Int) : out.length ≤ (addNew out r).length := by
  induction r generalizing out with
  | nil => exact Nat.le_refl _
  | cons n r ih =>
    refine Nat.le_trans ?_ (ih (if n ∈ out then out else out ++ [n]))
    split <;> simp
def HeapM.seed (H : HeapM) (E : List V) : List Int := E.foldl (fun o v => if (H.of v).isSome = true ∧ v.n ∉ o then o ++ [v.n] else o) []
theorem HeapM.seed_snoc (H : HeapM) (E : List V) (v : V) : H.seed (E ++ [v]) = if (H.of v).isSome = true ∧ v.n ∉ H.seed E then H.seed E ++ [v.n] else H.seed E := by unfold HeapM.seed; rw [List.foldl_append]; rfl
def HeapM.refsOf (H : HeapM) (n : Int) : List Int := match getL H.objs n with | some o => (H.refs o).map (·.n) | none => []
def HeapM.reachK (H : HeapM) (E : List V) : Nat → List Int
  | 0 => H.seed E
  | k + 1 => match (H.reachK E k)[k]? with | some n => addNew (H.reachK E k) (H.refsOf n) | none => H.reachK E k
theorem HeapM.refNs_ref (H : HeapM) (n : Int) (hn : okI n) : H.refNs (V.ref n hn) = H.refsOf n := by unfold HeapM.refNs HeapM.refsOf HeapM.of; rw [if_pos (show (V.ref n hn).kind = 4 from rfl)]; rfl
/-- All are numbers of objects, none twice. -/
def HeapM.Nums (H : HeapM) (l : List Int) : Prop := l.Nodup ∧ ∀ n ∈ l, (getL H.objs n).isSome = true
theorem HeapM.Nums.add {H : HeapM} {l : List Int} (h : H.Nums l) {n : Int} (hn : (getL H.objs n).isSome = true) (hm : n ∉ l) : H.Nums (l ++ [n]) :=
  ⟨List.nodup_append.2 ⟨h.1, by simp, fun a ha b hb e => by simp at hb; subst hb; subst e; exact hm ha⟩, fun m hm' => by
    rcases List.mem_append.1 hm' with h1 | h1
    · exact h.2 m h1
    · simp at h1; subst h1; exact hn⟩
theorem HeapM.seed_nums (H : HeapM) (E : List V) : ∀ k, H.Nums (H.seed (E.take k)) := by
  intro k
  induction k with
  | zero => exact ⟨by simp [HeapM.seed], by simp [HeapM.seed]⟩
  | succ k ih =>
    rw [List.take_add_one]
    cases hv : E[k]? with
    | none => simpa using ih
    | some v =>
      simp only [Option.toList_some]
      rw [HeapM.seed_snoc]
      split
      · rename_i h
        refine ih.add ?_ h.2
        obtain ⟨o, ho⟩ := Option.isSome_iff_exists.1 h.1
        rw [(HeapM.of_some ho).2]; rfl
      · exact ih
theorem addNew_nums {H : HeapM} {l r : List Int} (h : H.Nums l) (hr : ∀ n ∈ r, (getL H.objs n).isSome = true) : H.Nums (addNew l r) := by
  induction r generalizing l with
  | nil => exact h
  | cons n r ih =>
    simp only [addNew, List.foldl_cons]
    refine ih ?_ (fun m hm => hr m (by simp [hm]))
    split
    · exact h
    · rename_i hm; exact h.add (hr n (by simp)) hm
theorem HeapM.refsOf_live (H : HeapM) (n : Int) : ∀ m ∈ H.refsOf n, (getL H.objs m).isSome = true := by
  intro m hm
  unfold HeapM.refsOf at hm
  split at hm
  · obtain ⟨x, hx, rfl⟩ := List.mem_map.1 hm
    have := (List.mem_filter.1 hx).2
    obtain ⟨o, ho⟩ := Option.isSome_iff_exists.1 this
    rw [(HeapM.of_some ho).2]; rfl
  · simp at hm
theorem HeapM.reachK_nums (H : HeapM) (E : List V) : ∀ k, H.Nums (H.reachK E k)
  | 0 => by have := H.seed_nums E E.length; rwa [List.take_length] at this
  | k + 1 => by
    unfold HeapM.reachK
    split
    · exact addNew_nums (HeapM.reachK_nums H E k) (H.refsOf_live _)
    · exact HeapM.reachK_nums H E k
theorem HeapM.Nums.len {H : HeapM} {l : List Int} (h : H.Nums l) : l.length ≤ H.objs.length := by
  have hs : l ⊆ H.objs.map (·.1) := fun n hn => by
    obtain ⟨o, ho⟩ := Option.isSome_iff_exists.1 (h.2 n hn)
    exact List.mem_map.2 ⟨_, getL_mem ho, rfl⟩
  have := List.Nodup.length_le_of_subset h.1 hs
  simpa using this
theorem HeapM.Nums.ok {H : HeapM} {l : List Int} {N : Nat} (h : H.Nums l) (G : H.Good N) (hN : N ≤ 4000000) : ∀ n ∈ l, okI n := fun n hn => by
  obtain ⟨o, ho⟩ := Option.isSome_iff_exists.1 (h.2 n hn)
  exact G.key hN (getL_mem ho)
theorem HeapM.Good.len {H : HeapM} {N : Nat} (G : H.Good N) : H.objs.length ≤ N := by have := G.wt; unfold HeapM.weight at this; omega
theorem HeapM.Good.refs_len {H : HeapM} {N : Nat} (G : H.Good N) (n : Int) : (H.refsOf n).length ≤ N := by
  unfold HeapM.refsOf
  cases g : getL H.objs n with
  | none => simp
  | some o =>
    have h1 : o.vals.length ≤ H.weight := vals_le_weight (getL_mem g)
    have h2 : (H.refs o).length ≤ o.vals.length := List.length_filter_le _ _
    have := G.wt
    simp; omega
theorem HeapM.Kinds.zero {H : HeapM} (h : H.Kinds) (v : V) : H.kind v = 0 ↔ (H.of v).isSome = false := by
  unfold HeapM.kind
  cases g : H.of v with
  | none => simp
  | some o => have := h _ (getL_mem (HeapM.of_some g).2); simp only at this; simp; omega
section
variable {w W : World} {h : Nat} {H : HeapM} {Rs : List Res} {N : Nat}
theorem wpList_push_sep {ops : Array Oper} {rest : List Oper} {o : Oper} {a : Act} {Q : Exit → Act → World → Prop} (hg : o.guard = none) (s x : Operand)
    (ho : o.op = .call { callee := .builtin .append, args := #[s, x], argTypes := #[36, 36] }) {v : Value} {xs : List Int} (S : Sep w Rs W) (j : Nat) (hj : Rs[j]? = some (numsR v xs)) (hs : a.eval s = v) (n : Int) (g : Nat) (hx : a.eval x = .slice (some ⟨g, 0, none⟩) 1 1) (hc : W.cell? ⟨g, 0, none⟩ = some (.int .i64 n)) (hlen : xs.length + 1 ≤ 17592186044416)
    (k : ∀ va vc w', Sep w (Rs.set j (numsR (.slice va (xs.length + 1) vc) (xs ++ [n]))) w' → wpList Try.prog ops Q rest (a.put o.dst (.slice va (xs.length + 1) vc)) w') :
    wpList Try.prog ops Q (o :: rest) a W :=
  wpList_push_n hg s x ho v xs hs (S.row j hj) n g hx hc hlen fun va vc w' h1 h2 h3 => k va vc w' (S.grown j hj h1 h2 h3)
set_option maxRecDepth 100000 in
set_option maxHeartbeats 1600000 in
theorem reached_ok (S : Sep w Rs W) (i : Nat) (hi : Rs[i]? = some (heapR h H)) (G : H.Good N) (hN : N ≤ 4000000) (hk : H.Kinds) (sv : Value) (E : List V) (hs : SeesV w sv E) (hE : E.length ≤ 60) :
    Calls Try.prog 20 #[.pointer (some ⟨h, 0, none⟩), sv] W fun e W' => ∃ rv k, e = .returned rv ∧ (H.reachK E k).length = k ∧ Sep w (numsR rv (H.reachK E k) :: Rs) W' := by
  have HS := Lib.hid hs
  obtain ⟨a, ac, rfl, a1, a2, a3⟩ := hs
  have hE' : (E.length : Int) ≤ 60 := by omega
  have S0 := Lib.hid (S.addRow (belowAlloc W (.cells #[] 2)) (e := 2) (m := 1) (f := intCell) (v := .slice (some ⟨W.heap.size, 0, none⟩) 0 0) (l := []) (World.ownsRow_made W #[] 0 (Nat.zero_le _) (Nat.zero_le _) rfl) (by simp [Value.ownBlock]))
  have HG := Lib.hid (And.intro hi (And.intro G (And.intro hN hk)))
  clear a1 a2 a3 S hi G hN hk hE
  go_enter Try.func20, Try.ntmps20
  go_wp2
  go_loopw [5, 6] (fun out i wr => ∃ k : Nat, k ≤ E.length ∧ i = .int .i64 k ∧ Sep w (numsR out (H.seed (E.take k)) :: Rs) wr) (fun _ i _ => E.length - (intOf i).toNat)
  case atStart => exact ⟨0, by omega, rfl, S0.out⟩
  case round =>
    clear S0
    obtain ⟨k, hk, rfl, S1⟩ := hrel
    obtain ⟨oa, oc, rfl⟩ := (S1.row 0 rfl).form
    by_cases hlt : k < E.length
    · obtain ⟨x, hx⟩ : ∃ x, E[k]? = some x := ⟨E[k], by simp [hlt]⟩
      obtain ⟨g, o, rfl, hc⟩ : ∃ g o, a = some ⟨g, o, none⟩ ∧ ∀ i v, E[i]? = some v → w.cell? ⟨g, o + i * 3, none⟩ = some (.int .i64 v.kind) ∧ w.cell? ⟨g, o + i * 3 + 1, none⟩ = some (.int .i64 v.n) ∧ w.cell? ⟨g, o + i * 3 + 2, none⟩ = some (.string v.s) := by
        obtain ⟨a', c', he, _, _, h3⟩ := HS.out
        cases he
        rcases h3 with h | h
        · subst h; simp at hlt
        · exact h
      obtain ⟨c0, c1, c2⟩ := hc k x hx
      have d0 := cellBelow c0 S1.below
      have d1 := cellBelow c1 S1.below
      have d2 := cellBelow c2 S1.below
      have hil : (k : Int) < E.length := by omega
      have hseed := HeapM.seed_snoc H (E.take k) x
      rw [show E.take k ++ [x] = E.take (k + 1) by rw [List.take_add_one, hx]; rfl] at hseed
      have hnum := HeapM.seed_nums H E k
      have hll := hnum.len
      have hGl := HG.out.2.1.len
      have hoN := HG.out.2.2.1
      obtain ⟨kd, hkd⟩ : ∃ kd, H.kind x = kd := ⟨_, rfl⟩
      have K := S1.kind (i + 1) (by simpa using HG.out.1) x
      rw [hkd] at K
      replace K := Lib.hid K
      have hz := HG.out.2.2.2.zero x
      rw [hkd] at hz
      generalize H.seed (E.take k) = L at *
      have HX := Lib.hid (And.intro hseed (And.intro hlt (show L.length + 1 ≤ 17592186044416 by omega)))
      have HB := Lib.hid (And.intro c0 (And.intro c1 c2))
      clear hx hc c0 c1 c2 hseed hnum hll hGl hoN S1 hlt
      by_cases hs : (H.of x).isSome = true
      · have hkz : (kd != 0) = true := by
          rw [bne_iff_ne]; intro e; have := hz.1 e; rw [hs] at this; cases this
        have HSM := Lib.hid hs
        clear hs hz hkd
        simp only [V.val] at K
        go_wp2_with fail
        refine K.out.mono ?_
        rintro e w1 ⟨rfl, S2, hb1⟩
        have e0 := cellBelow HB.out.1 S2.below
        have e1 := cellBelow HB.out.2.1 S2.below
        have I := Lib.hid (in_ok w1 _ L x.n (SeesN.of_slIs (S2.row 0 rfl)))
        replace S2 := Lib.hid S2
        clear d0 d1 d2 hb1 K
        go_wp2_with fail
        refine I.out.mono ?_
        rintro e w2 ⟨rfl, q, rfl⟩
        have f1 := (World.cell?_drewN w1 q _).trans e1
        have S3 := Lib.hid (S2.out.drewN q)
        obtain ⟨w2, hw2⟩ : ∃ w2, w1.drewN q = w2 := ⟨_, rfl⟩
        rw [hw2] at f1 S3 ⊢
        clear hw2 e0 e1 S2 I
        by_cases hm : x.n ∈ L
        · have hm' : decide (x.n ∈ L) = true := by simpa using hm
          have HM := Lib.hid hm
          rw [hm']
          clear hm hm'
          go_wp2
          refine ⟨⟨k + 1, by have := HX.out.2.1; omega, by go_num, ?_⟩, by have := HX.out.2.1; simp [intOf]; omega⟩
          rw [HX.out.1, if_neg (fun h => h.2 HM.out)]; exact S3.out
        · have hm' : decide (x.n ∈ L) = false := by simpa using hm
          have HM := Lib.hid hm
          rw [hm']
          clear hm hm'
          go_wp2_with (at_builtin; refine wpList_push_sep rfl _ _ rfl (S3.out.later (belowAlloc _ _)) 0 rfl rfl _ _ rfl (cell_of_row _ _ _ _ _ _ (heapAllocNew _ _)) HX.out.2.2 ?_)
          intro va vc w3 S4
          replace S4 := Lib.hid S4
          go_wp2
          refine ⟨⟨k + 1, by have := HX.out.2.1; omega, by go_num, ?_⟩, by have := HX.out.2.1; simp [intOf]; omega⟩
          rw [HX.out.1, if_pos ⟨HSM.out, HM.out⟩]; exact S4.out
      · have hkz : (kd != 0) = false := by
          have := hz.2 (by simpa using hs); simp [this]
        have HSM := Lib.hid hs
        clear hs hz hkd
        simp only [V.val] at K
        go_wp2_with fail
        refine K.out.mono ?_
        rintro e w1 ⟨rfl, S2, hb1⟩
        replace S2 := Lib.hid S2
        clear d0 d1 d2 hb1 K
        go_wp2
        refine ⟨⟨k + 1, by have := HX.out.2.1; omega, by go_num, ?_⟩, by have := HX.out.2.1; simp [intOf]; omega⟩
        rw [HX.out.1, if_neg (fun h => HSM.out h.1)]; exact S2.out
    · obtain rfl : k = E.length := by omega
      have he : H.seed (E.take E.length) = H.reachK E 0 := by rw [List.take_length]; rfl
      rw [he] at S1 ⊢
      replace S1 := Lib.hid S1
      clear hlt he hk
      go_wp2
      go_loopw [5, 7] (fun out i wr => ∃ k : Nat, k ≤ (H.reachK E k).length ∧ i = .int .i64 k ∧ Sep w (numsR out (H.reachK E k) :: Rs) wr) (fun _ i _ => H.objs.length - (intOf i).toNat)
      case atStart => exact ⟨0, by omega, rfl, S1.out⟩
      case round =>
        clear S1
        obtain ⟨k, hk, rfl, S1⟩ := hrel
        obtain ⟨oa, oc, rfl⟩ := (S1.row 0 rfl).form
        have hnum := HeapM.reachK_nums H E k
        have hll := hnum.len
        have hGl := HG.out.2.1.len
        have hoN := HG.out.2.2.1
        by_cases hlt : k < (H.reachK E k).length
        · obtain ⟨n, hn⟩ : ∃ n, (H.reachK E k)[k]? = some n := ⟨(H.reachK E k)[k], by simp [hlt]⟩
          have hnext : H.reachK E (k + 1) = addNew (H.reachK E k) (H.refsOf n) := by
            conv => lhs; unfold HeapM.reachK
            rw [hn]
          have hkn := hnum.ok HG.out.2.1 hoN n (List.mem_of_getElem? hn)
          obtain ⟨g, rfl⟩ : ∃ g, oa = some ⟨g, 0, none⟩ := by
            rcases (S1.row 0 rfl).shape with ⟨h1, h2⟩ | ⟨g, cap, h1, _⟩
            · rw [h2] at hlt; simp at hlt
            · exact ⟨g, (Value.slice.inj h1).1⟩
          have c0 := (S1.row 0 rfl).cell (f := intCell) (m := 1) (fun _ => rfl) rfl hn (j := 0) (u := .int .i64 n) rfl
          rw [Nat.mul_one, Nat.add_zero] at c0
          have hrl := HG.out.2.1.refs_len n
          have hil : (k : Int) < (H.reachK E k).length := by omega
          have hll2 : ((H.reachK E k).length : Int) ≤ 4000000 := by omega
          have hadd : ∀ m, (addNew (H.reachK E k) ((H.refsOf n).take m)).length ≤ 4000000 := fun m => by
            have := (addNew_nums (r := (H.refsOf n).take m) hnum (fun x hx => H.refsOf_live n x (List.mem_of_mem_take hx))).len; omega
          have HX := Lib.hid (And.intro hnext (And.intro hadd (And.intro hrl (And.intro hlt (show k < H.objs.length by omega)))))
          obtain ⟨nx, hnx⟩ : ∃ nx, nx = H.reachK E (k + 1) := ⟨_, rfl⟩
          rw [← hnx] at HX
          have HNX := Lib.hid hnx
          generalize H.reachK E k = L at *
          clear hn hnext hadd hrl hnum hll hGl hoN hnx hlt
          replace S1 := Lib.hid S1
          go_wp2_with fail
          refine (ref_ok wr n).mono ?_
          rintro e w1 ⟨rfl, hb1⟩
          have R := (S1.out.later hb1).refs (i + 1) (by simpa using HG.out.1) HG.out.2.1 HG.out.2.2.1 (V.ref n hkn)
          rw [HeapM.refNs_ref] at R
          replace R := Lib.hid R
          simp only [V.val, V.ref] at R
          clear hb1 c0
          go_wp2_with fail
          refine R.out.mono ?_
          rintro e w2 ⟨sv, rfl, S2, hb2⟩
          obtain ⟨ra, rc, rfl⟩ := (S2.row 0 rfl).form
          replace S2 := Lib.hid S2
          clear hb2 R
          have hrl : ((H.refsOf n).length : Int) ≤ 4000000 := by have := HX.out.2.2.1; have := HG.out.2.2.1; omega
          generalize H.refsOf n = r at *
          go_wp2
          obtain ⟨wo, hwo⟩ : ∃ wo : World, wo = w2 := ⟨_, rfl⟩
          subst hwo
          go_loopw [5, 9] (fun out j wi => ∃ m : Nat, m ≤ r.length ∧ j = .int .i64 m ∧ Sep w (numsR (.slice ra r.length rc) r :: numsR out (addNew L (r.take m)) :: Rs) wi) (fun _ j _ => r.length - (intOf j).toNat)
          case atStart => exact ⟨0, by omega, rfl, S2.out⟩
          case round =>
            clear S2
            obtain ⟨m, hm, rfl, S2⟩ := hrel
            obtain ⟨pa, pc, rfl⟩ := (S2.row 1 rfl).form
            by_cases hlt : m < r.length
            · obtain ⟨y, hy⟩ : ∃ y, r[m]? = some y := ⟨r[m], by simp [hlt]⟩
              obtain ⟨g2, rfl⟩ : ∃ g, ra = some ⟨g, 0, none⟩ := by
                rcases (S2.row 0 rfl).shape with ⟨h1, h2⟩ | ⟨g, cap, h1, _⟩
                · rw [h2] at hlt; simp at hlt
                · exact ⟨g, (Value.slice.inj h1).1⟩
              have c0 := (S2.row 0 rfl).cell (f := intCell) (m := 1) (fun _ => rfl) rfl hy (j := 0) (u := .int .i64 y) rfl
              rw [Nat.mul_one, Nat.add_zero] at c0
              have hsn := addNew_snoc L (r.take m) y
              rw [show r.take m ++ [y] = r.take (m + 1) by rw [List.take_add_one, hy]; rfl] at hsn
              have hal := HX.out.2.1 m
              have hil2 : (m : Int) < r.length := by omega
              generalize addNew L (r.take m) = T at *
              have I := Lib.hid (in_ok wr _ T y (SeesN.of_slIs (S2.row 1 rfl)))
              have HY := Lib.hid (And.intro hsn (And.intro hlt (show T.length + 1 ≤ 17592186044416 by omega)))
              replace S2 := Lib.hid S2
              clear hy hsn hal hlt
              go_wp2_with fail
              refine I.out.mono ?_
              rintro e w3 ⟨rfl, q, rfl⟩
              have f1 := (World.cell?_drewN wr q _).trans c0
              have S3 := Lib.hid (S2.out.drewN q)
              obtain ⟨w3, hw3⟩ : ∃ w3, wr.drewN q = w3 := ⟨_, rfl⟩
              rw [hw3] at f1 S3 ⊢
              clear hw3 c0 S2 I
              by_cases hmem : y ∈ T
              · have hm' : decide (y ∈ T) = true := by simpa using hmem
                have HM := Lib.hid hmem
                rw [hm']
                clear hmem hm'
                go_wp2
                refine ⟨⟨m + 1, by have := HY.out.2.1; omega, by go_num, ?_⟩, by have := HY.out.2.1; simp [intOf]; omega⟩
                rw [HY.out.1, if_pos HM.out]; exact S3.out
              · have hm' : decide (y ∈ T) = false := by simpa using hmem
                have HM := Lib.hid hmem
                rw [hm']
                clear hmem hm'
                go_wp2_with (at_builtin; refine wpList_push_sep rfl _ _ rfl (S3.out.later (belowAlloc _ _)) 1 rfl rfl _ _ rfl (cell_of_row _ _ _ _ _ _ (heapAllocNew _ _)) HY.out.2.2 ?_)
                intro va vc w4 S4
                replace S4 := Lib.hid S4
                go_wp2
                refine ⟨⟨m + 1, by have := HY.out.2.1; omega, by go_num, ?_⟩, by have := HY.out.2.1; simp [intOf]; omega⟩
                rw [HY.out.1, if_neg HM.out]; exact S4.out
            · obtain rfl : m = r.length := by omega
              rw [List.take_length] at S2 ⊢
              replace S2 := Lib.hid S2
              clear hlt
              go_wp2
              refine ⟨⟨k + 1, ?_, by go_num, ?_⟩, by have := HX.out.2.2.2.2; simp [intOf]; omega⟩
              · have h1 := addNew_len L r
                have h2 := HX.out.2.2.2.1
                rw [← HNX.out, HX.out.1]; omega
              · rw [← HNX.out, HX.out.1]; exact S2.out.tail
        · obtain he : (H.reachK E k).length = k := by omega
          replace S1 := Lib.hid S1
          have HE := Lib.hid he
          clear hnum hll hGl hoN
          rw [he] at hlt ⊢
          go_wp2
          go_ret
          refine ⟨_, k, rfl, HE.out, ?_⟩
          have := S1.out
          rw [HE.out] at this; exact this
end
end Go.Proofs.Ytoancpjlkhijiaa
