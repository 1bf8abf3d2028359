/- collect: Collect. -/
import Derived.Test.YtjinabglachglaaCollE
import Derived.Test.YtjinabglachglaaFreed
namespace Go.Proofs.Ytjinabglachglaa
set_option linter.unusedSimpArgs false
open Go.RowKit
set_option linter.unusedVariables false
theorem HeapM.Kinds.sweep' {H : HeapM} (h : H.Kinds) (E : List V) : (H.sweep E).Kinds := h.filter _ fun p hp => (List.mem_filter.1 hp).1
theorem HeapM.Kinds.freeAll {H : HeapM} (h : H.Kinds) (ns : List Int) : (H.freeAll ns).Kinds := h.filter _ fun p hp => by rw [freeAll_objs] at hp; exact (List.mem_filter.1 hp).1
/-- What a collection leaves. -/
noncomputable def HeapM.collect (H : HeapM) (E : List V) : HeapM := (H.sweep E).freeAll ((H.sweep E).garbageM E)
theorem HeapM.garbageM_nums {H : HeapM} {N : Nat} (G : H.Good N) (E : List V) : H.Nums (H.garbageM E) := by
  unfold HeapM.garbageM
  exact ⟨(HeapM.keys_nums G).1.filter _, fun n hn => (HeapM.keys_nums G).2 n ((List.mem_filter.1 hn).1)⟩
set_option maxRecDepth 100000 in
set_option maxHeartbeats 1600000 in
theorem collect_ok {w W : World} {Rs : List Res} (S : Sep w Rs W) (i : Nat) (h : Nat) {H : HeapM} (hi : Rs[i]? = some (heapR h H)) {N : Nat} (G : H.Good N) (hN : N ≤ 4000000) (hk : H.Kinds) (a : Option Addr) (c : Nat) (E : List V) (hE : E.length ≤ 4000000)
    (hs : ∀ (H' : HeapM) (W' : World), Sep w (Rs.set i (heapR h H')) W' → SeesV W' (.slice a E.length c) E) (ha : ∀ W', ArgS w W' Rs i (.slice a E.length c)) :
    Calls Try.prog 15 #[.pointer (some ⟨h, 0, none⟩), .slice a E.length c] W fun e W' => e = .returned (.tuple #[.int .i64 ((H.objs.length : Int) - (H.collect E).objs.length), .int .i64 ((H.live 6 : Int) - (H.collect E).live 6)]) ∧ Sep w (Rs.set i (heapR h (H.collect E))) W' := by
  have hil := (List.getElem?_eq_some_iff.1 hi).1
  have L1 := Lib.hid (S.live i hi G hN 6)
  have S2 := Lib.hid (fun W (S : Sep w Rs W) => S.sweep i hi G hN (.slice a E.length c) E (by have := hs H W (by rw [Sep.setSame hi]; exact S); exact this) (ha W) hE)
  have G1 := G.sweep E
  have k1 := hk.sweep' E
  have hi1 : (Rs.set i (heapR h (H.sweep E)))[i]? = some (heapR h (H.sweep E)) := by simp [hil]
  have S3 := Lib.hid (fun W (S : Sep w (Rs.set i (heapR h (H.sweep E))) W) => show Calls Try.prog 17 #[.pointer (some ⟨h, 0, none⟩), .slice a E.length c] W fun e W' => ∃ v, e = .returned v ∧ Sep w (numsR v ((H.sweep E).garbageM E) :: Rs.set i (heapR h (H.sweep E))) W' from by
    obtain ⟨F, h1, _⟩ := S.get i hi1
    exact (garbage_is W _ (HAns.of h1 G1 hN) G1 hN k1 _ E (hs _ W S) hE).mono fun e W' ⟨v, e1, e2⟩ => ⟨v, e1, S.join e2⟩)
  have hn1 := HeapM.garbageM_nums G1 E
  have S4 := Lib.hid (fun W v (S : Sep w (numsR v ((H.sweep E).garbageM E) :: Rs.set i (heapR h (H.sweep E))) W) => S.free (i + 1) (by simpa using hi1) G1 hN v _ (SeesN.of_slIs (S.row 0 rfl)) (ArgS.row 0 (by omega) rfl) (hn1.ok G1 hN))
  have G2 := G1.freeAll ((H.sweep E).garbageM E)
  have hi2 : (Rs.set i (heapR h (H.collect E)))[i]? = some (heapR h (H.collect E)) := by simp [hil]
  have S5 := Lib.hid (fun W (S : Sep w (Rs.set i (heapR h (H.collect E))) W) => S.live i hi2 G2 hN 6)
  have hf := freed_len (H := H.sweep E) G1.ok.nk ((H.sweep E).garbageM E)
  have hl1 := G.len
  have hl2 : H.live 6 ≤ H.objs.length := List.length_filter_le _ _
  have hl3 : (H.collect E).live 6 ≤ (H.collect E).objs.length := List.length_filter_le _ _
  have hcl : (H.collect E).objs = ((H.sweep E).freeAll ((H.sweep E).garbageM E)).objs := rfl
  rw [← hcl] at hf
  have HF := Lib.hid (And.intro hf (And.intro hl1 (And.intro hl2 (And.intro hl3 hN))))
  have HS := Lib.hid S
  clear S hi hk hs ha G1 k1 hi1 hn1 G2 hi2 hf hl1 hl2 hl3 hcl hE hN G
  go_enter Try.func15, Try.ntmps15
  go_wp2_with fail
  refine L1.out.mono ?_
  rintro e w1 ⟨rfl, T1, -⟩
  replace T1 := Lib.hid (S2.out _ T1)
  clear L1
  go_wp2_with fail
  refine T1.out.mono ?_
  rintro e w2 ⟨⟨f, rfl, f1⟩, T2⟩
  have HF1 := Lib.hid f1
  replace T2 := Lib.hid (S3.out _ T2)
  clear T1 f1
  go_wp2_with fail
  refine T2.out.mono ?_
  rintro e w3 ⟨v, rfl, T3⟩
  replace T3 := Lib.hid (S4.out _ _ T3)
  clear T2
  go_wp2_with fail
  refine T3.out.mono ?_
  rintro e w4 ⟨rfl, T4⟩
  rw [List.set_cons_succ, List.set_set] at T4
  replace T4 := T4.tail
  have T5 := Lib.hid (S5.out _ T4)
  have T6 := Lib.hid T4
  clear T3 T4
  have hw1 : wrap64 ((f : Int) + ((H.sweep E).freed ((H.sweep E).garbageM E) : Nat)) = (H.objs.length : Int) - (H.collect E).objs.length := by
    have := HF.out; have := HF1.out
    rw [wrap64_id _ (by omega)]; omega
  have hw2 : wrap64 ((H.live 6 : Int) - (H.collect E).live 6) = (H.live 6 : Int) - (H.collect E).live 6 := by
    have := HF.out; have := HF1.out
    exact wrap64_id _ (by omega)
  have HW := Lib.hid (And.intro hw1 hw2)
  clear hw1 hw2
  go_wp2_with fail
  refine T5.out.mono ?_
  rintro e w5 ⟨rfl, T7, -⟩
  replace T7 := Lib.hid T7
  clear T5 T6
  go_wp2
  exact bodyPost_ret (v := .tuple #[.int .i64 (wrap64 ((f : Int) + ((H.sweep E).freed ((H.sweep E).garbageM E) : Nat))), .int .i64 (wrap64 ((H.live 6 : Int) - (H.collect E).live 6))]) (by simp [results, Try.results15, go_sem]) rfl ⟨by rw [HW.out.1, HW.out.2], T7.out⟩
end Go.Proofs.Ytjinabglachglaa
