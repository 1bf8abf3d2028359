/-
  HeapKeeps: for any calls and values of bulk at most 1048576 the law returns true: nothing that was handed in to a sweep, or is reached from there, is freed, or changed. Condition: the bulk (the second form).
-/
import Derived.Test.YtoancpjlkhijiaaKeepsM
import Derived.Test.YtoancpjlkhijiaaRows2
namespace Go.Proofs.Ytoancpjlkhijiaa.heapKeeps
set_option linter.unusedSimpArgs false
open Go.ChangeShapes Go.WideShapes Go.ChangeAt Go.RowKit
set_option linter.unusedVariables false
def LawTrue (w : World) (e : Ending) (w' : World) : Prop := e = .returned (.bool true) ∧ Below w.heap.size w w'
theorem sep_of {w W : World} {h : Nat} {H : HeapM} (A : HAt w h H [] W) : Sep w [heapR h H] W := by
  obtain ⟨F, f1, f2, f3, _⟩ := A
  exact ⟨f3, F, ⟨F, [], f1, rfl, by simp⟩, f1.nodup, f2⟩
theorem seesO_below {w w1 : World} {s : Value} {l : List OpM} (h : SeesO w s l) (hb : Below w.heap.size w w1) : SeesO w1 s l := by
  obtain ⟨a, cap, e, h1, h2, h3, h4⟩ := h
  refine ⟨a, cap, e, h1, h2, ?_, fun x hx => ⟨(h4 x hx).1.keep fun p v hp => cellBelow hp hb, fun g o n c e h0 => ?_⟩⟩
  · rcases h3 with h3 | ⟨g, o, h3, h5⟩
    · exact .inl h3
    · exact .inr ⟨g, o, h3, fun i x hx j u hu => cellBelow (h5 i x hx j u hu) hb⟩
  · rcases (h4 x hx).2 g o n c e h0 with h | ⟨_, h⟩
    · exact .inl (Nat.lt_of_lt_of_le h hb.size)
    · cases h
set_option maxRecDepth 100000 in
set_option maxHeartbeats 1600000 in
theorem big (w : World) (s t : Value) (l : List OpM) (E : List V) (hs : SeesO w s l) (ht : SeesV w t E) (hN : opsW l ≤ 3000000) (hb : bigM l = true) :
    Calls Try.prog 4 #[s, t] w (LawTrue w) := by
  have M := Lib.hid (lawMade_any w s l hs hN)
  have HS := Lib.hid hs
  obtain ⟨a, ac, rfl, -, -, -, -⟩ := hs
  obtain ⟨b, bc, rfl, -, -, -⟩ := ht
  have HB := Lib.hid hb
  clear hb hN
  go_enter Try.func4, Try.ntmps4
  go_wp2_with fail
  refine M.out.mono ?_
  rintro e w1 ⟨h, rfl, A1⟩
  have B1 := Lib.hid A1.below
  have C := big_ok w1 _ l (seesO_below HS.out B1.out)
  rw [HB.out] at C
  have C' := Lib.hid C
  clear A1 C
  go_wp2_with fail
  refine C'.out.mono ?_
  rintro e w2 ⟨rfl, q, rfl⟩
  have B2 := Lib.hid (Below.drewN B1.out q)
  obtain ⟨w2, hw2⟩ : ∃ w2, w1.drewN q = w2 := ⟨_, rfl⟩
  rw [hw2] at B2 ⊢
  clear hw2
  have C := big_ok w2 _ l (seesO_below HS.out B2.out)
  rw [HB.out] at C
  have C2 := Lib.hid C
  clear C C'
  go_wp2_with fail
  refine C2.out.mono ?_
  rintro e w3 ⟨rfl, q, rfl⟩
  have B3 := Lib.hid (Below.drewN B2.out q)
  obtain ⟨w3, hw3⟩ : ∃ w3, w2.drewN q = w3 := ⟨_, rfl⟩
  rw [hw3] at B3 ⊢
  clear hw3 C2
  go_wp2
  go_ret
  exact ⟨rfl, B3.out⟩
set_option maxRecDepth 100000 in
set_option maxHeartbeats 1600000 in
theorem far (w : World) (s t : Value) (l : List OpM) (E : List V) (hs : SeesO w s l) (ht : SeesV w t E) (hN : opsW l ≤ 3000000) (hb : bigM l = false) (hE : 60 < E.length) :
    Calls Try.prog 4 #[s, t] w (LawTrue w) := by
  have M := Lib.hid (lawMade_any w s l hs hN)
  have HS := Lib.hid hs
  obtain ⟨a, ac, rfl, -, -, -, -⟩ := hs
  obtain ⟨b, bc, rfl, -, -, -⟩ := ht
  have HB := Lib.hid hb
  have hE' : (60 : Int) < E.length := by omega
  clear hb hN hE
  go_enter Try.func4, Try.ntmps4
  go_wp2_with fail
  refine M.out.mono ?_
  rintro e w1 ⟨h, rfl, A1⟩
  have B1 := Lib.hid A1.below
  have C := big_ok w1 _ l (seesO_below HS.out B1.out)
  rw [HB.out] at C
  have C' := Lib.hid C
  clear A1 C
  go_wp2_with fail
  refine C'.out.mono ?_
  rintro e w2 ⟨rfl, q, rfl⟩
  have B2 := Lib.hid (Below.drewN B1.out q)
  obtain ⟨w2, hw2⟩ : ∃ w2, w1.drewN q = w2 := ⟨_, rfl⟩
  rw [hw2] at B2 ⊢
  clear hw2
  have C := big_ok w2 _ l (seesO_below HS.out B2.out)
  rw [HB.out] at C
  have C2 := Lib.hid C
  clear C C'
  go_wp2_with fail
  refine C2.out.mono ?_
  rintro e w3 ⟨rfl, q, rfl⟩
  have B3 := Lib.hid (Below.drewN B2.out q)
  obtain ⟨w3, hw3⟩ : ∃ w3, w2.drewN q = w3 := ⟨_, rfl⟩
  rw [hw3] at B3 ⊢
  clear hw3 C2
  go_wp2
  go_ret
  exact ⟨rfl, B3.out⟩
/-- What has been told of the first k objects. -/
def Told (H : HeapM) (L : List Int) (I K : List Value) (T : List Res) (k : Nat) : Prop :=
  I.length = k ∧ K.length = k ∧ ∀ j, j < k → ∃ ia ic ka kc n, L[j]? = some n ∧ I[j]? = some (.slice ia (H.itemsN n).length ic) ∧ K[j]? = some (.slice ka (H.keysN n).length kc) ∧ valsR (.slice ia (H.itemsN n).length ic) (H.itemsN n) ∈ T ∧ valsR (.slice ka (H.keysN n).length kc) (H.keysN n) ∈ T
theorem Told.more {H : HeapM} {L : List Int} {I K : List Value} {T : List Res} {k : Nat} (h : Told H L I K T k) {n : Int} (hn : L[k]? = some n) (ia ka : Option Addr) (ic kc : Nat) :
    Told H L (I ++ [.slice ia (H.itemsN n).length ic]) (K ++ [.slice ka (H.keysN n).length kc]) (valsR (.slice ka (H.keysN n).length kc) (H.keysN n) :: valsR (.slice ia (H.itemsN n).length ic) (H.itemsN n) :: T) (k + 1) := by
  obtain ⟨h1, h2, h3⟩ := h
  refine ⟨by simp [h1], by simp [h2], fun j hj => ?_⟩
  by_cases e : j = k
  · subst e
    refine ⟨ia, ic, ka, kc, n, hn, ?_, ?_, by simp, by simp⟩
    · rw [List.getElem?_append_right (by omega), h1]; simp
    · rw [List.getElem?_append_right (by omega), h2]; simp
  · obtain ⟨ia', ic', ka', kc', n', k1, k2, k3, k4, k5⟩ := h3 j (by omega)
    refine ⟨ia', ic', ka', kc', n', k1, ?_, ?_, by simp [k4], by simp [k5]⟩
    · rw [List.getElem?_append_left (by omega)]; exact k2
    · rw [List.getElem?_append_left (by omega)]; exact k3
set_option maxRecDepth 100000 in
set_option maxHeartbeats 3200000 in
theorem small (w : World) (s t : Value) (l : List OpM) (E : List V) (hs : SeesO w s l) (ht : SeesV w t E) (hta : Arg w [] t) (hN : opsW l ≤ 3000000) (hb : bigM l = false) (hE : E.length ≤ 60) :
    Calls Try.prog 4 #[s, t] w (LawTrue w) := by
  have M := Lib.hid (lawMade_any w s l hs hN)
  have HS := Lib.hid hs
  have HT := Lib.hid (And.intro ht (And.intro hta hE))
  have HG := Lib.hid (And.intro ((madeM_goodW l).more hN) (madeM_kinds l))
  obtain ⟨a, ac, rfl, -, -, -, -⟩ := hs
  obtain ⟨b, bc, rfl, -, -, -⟩ := ht
  have HB := Lib.hid hb
  have hE' : (E.length : Int) ≤ 60 := by omega
  clear hb hN hE hta
  go_enter Try.func4, Try.ntmps4
  go_wp2_with fail
  refine M.out.mono ?_
  rintro e w1 ⟨h, rfl, A1⟩
  have S1 := Lib.hid (sep_of A1)
  generalize madeM l = H at *
  have C := big_ok w1 _ l (seesO_below HS.out S1.out.below)
  rw [HB.out] at C
  have C' := Lib.hid C
  clear A1 C M
  go_wp2_with fail
  refine C'.out.mono ?_
  rintro e w2 ⟨rfl, q, rfl⟩
  have S2 := Lib.hid (S1.out.drewN q)
  obtain ⟨w2, hw2⟩ : ∃ w2, w1.drewN q = w2 := ⟨_, rfl⟩
  rw [hw2] at S2 ⊢
  clear hw2 C' S1
  go_wp2_with fail
  refine (reached_ok S2.out 0 rfl HG.out.1 (by omega) HG.out.2 _ E HT.out.1 HT.out.2.2).mono ?_
  rintro e w3 ⟨rv, z, rfl, hz, S3⟩
  have hnum := HeapM.reachK_nums H E z
  have HL := Lib.hid (show ∃ k, (H.reachK E k).length = k ∧ H.reachK E z = H.reachK E k from ⟨z, hz, rfl⟩)
  have hok := hnum.ok HG.out.1 (by omega)
  have hln := hnum.len
  have hgl := HG.out.1.len
  have hkept := reachK_kept H E z
  have hll : ((H.reachK E z).length : Int) ≤ 3000000 := by omega
  clear hz
  generalize H.reachK E z = L at *
  have HLO := Lib.hid (And.intro hok hkept)
  clear hnum hok hln hgl hkept S2
  obtain ⟨la, lc, rfl⟩ := (S3.row 0 rfl).form
  have S4 := (S3.addRow (belowAlloc w3 (.cells #[] 22)) (e := 22) (m := 1) (f := slCell) (v := .slice (some ⟨w3.heap.size, 0, none⟩) 0 0) (l := []) (World.ownsRow_made w3 #[] 0 (Nat.zero_le _) (Nat.zero_le _) rfl) (by simp [Value.ownBlock]))
  have S5 := (S4.addRow (belowAlloc _ (.cells #[] 22)) (e := 22) (m := 1) (f := slCell) (v := .slice (some ⟨(w3.alloc (.cells #[] 22)).heap.size, 0, none⟩) 0 0) (l := []) (World.ownsRow_made (w3.alloc (.cells #[] 22)) #[] 0 (Nat.zero_le _) (Nat.zero_le _) rfl) (by simp [Value.ownBlock]))
  rw [World.size_alloc] at S5
  replace S5 := Lib.hid S5
  clear S3 S4
  go_wp2
  go_loopw [7, 8, 9] (fun iv kv i wr => ∃ (k : Nat) (I K : List Value) (T : List Res), k ≤ L.length ∧ i = .int .i64 k ∧ Told H L I K T k ∧ Sep w ([slsR kv K, slsR iv I, numsR (.slice la L.length lc) L, heapR h H] ++ T) wr) (fun _ _ i _ => L.length - (intOf i).toNat)
  case atStart => exact ⟨0, [], [], [], by omega, rfl, ⟨rfl, rfl, by simp⟩, S5.out⟩
  case round =>
    clear S5
    obtain ⟨k, I, K, T, hk, rfl, hT, S6⟩ := hrel
    obtain ⟨ka, kc, rfl⟩ := (S6.row 0 rfl).form
    obtain ⟨ia, ic, rfl⟩ := (S6.row 1 rfl).form
    by_cases hlt : k < L.length
    · obtain ⟨n, hn⟩ : ∃ n, L[k]? = some n := ⟨L[k], by simp [hlt]⟩
      have hkn := HLO.out.1 n (List.mem_of_getElem? hn)
      obtain ⟨g, rfl⟩ : ∃ g, la = some ⟨g, 0, none⟩ := by
        rcases (S6.row 2 rfl).shape with ⟨h1, h2⟩ | ⟨g, cap, h1, _⟩
        · rw [h2] at hlt; simp at hlt
        · exact ⟨g, (Value.slice.inj h1).1⟩
      have HC : Hid (∀ (A B : Res) (Rs : List Res) W, Sep w (A :: B :: numsR (.slice (some ⟨g, 0, none⟩) L.length lc) L :: Rs) W → W.cell? ⟨g, k, none⟩ = some (.int .i64 n)) := Lib.hid fun A B Rs W S => by
        have := (S.row 2 rfl).cell (f := intCell) (m := 1) (fun _ => rfl) rfl hn (j := 0) (u := .int .i64 n) rfl
        rwa [Nat.mul_one, Nat.add_zero] at this
      have c0 := HC.out _ _ _ _ S6
      have hil : (k : Int) < L.length := by omega
      have HT1 := Lib.hid (hT.more hn)
      have HIK := Lib.hid (show I.length + 1 ≤ 17592186044 ∧ K.length + 1 ≤ 17592186044 by have h1 := hT.1; have h2 := hT.2.1; omega)
      have HLT := Lib.hid hlt
      replace S6 := Lib.hid S6
      clear hn hT hlt
      go_wp2_with fail
      refine (ref_ok wr n).mono ?_
      rintro e w4 ⟨rfl, hb1⟩
      have R := (S6.out.later hb1).items 3 rfl HG.out.1 (by omega) (V.ref n hkn)
      rw [HeapM.items_ref] at R
      replace R := Lib.hid R
      simp only [V.val, V.ref] at R
      clear hb1 c0 S6
      go_wp2_with fail
      refine R.out.mono ?_
      rintro e w5 ⟨sv, rfl, S7, hb2⟩
      obtain ⟨sa, sc, rfl⟩ := (S7.row 0 rfl).form
      generalize H.itemsN n = X at *
      replace S7 := Lib.hid S7
      clear R hb2
      go_wp2_with (at_builtin; refine wpList_push_sl rfl _ _ rfl (S7.out.later (belowAlloc _ _)) 2 rfl rfl _ _ _ _ rfl (cell_of_row _ _ _ _ _ _ (heapAllocNew _ _)) HIK.out.1 ?_)
      intro va vc w6 S8
      have S9 := Sep.behind (A := [slsR (.slice ka K.length kc) K, slsR (.slice va (I.length + 1) vc) (I ++ [.slice sa X.length sc]), numsR (.slice (some ⟨g, 0, none⟩) L.length lc) L, heapR h H]) S8
      have c0 := HC.out _ _ _ _ S9
      clear S7 S8
      replace S9 := Lib.hid S9
      go_wp2_with fail
      refine (ref_ok w6 n).mono ?_
      rintro e w7 ⟨rfl, hb1⟩
      have R := (S9.out.later hb1).keys 3 rfl (V.ref n hkn)
      rw [HeapM.keys_ref] at R
      replace R := Lib.hid R
      simp only [V.val, V.ref] at R
      clear hb1 c0 S9
      go_wp2_with fail
      refine R.out.mono ?_
      rintro e w8 ⟨sv, rfl, S10, hb2⟩
      obtain ⟨ya, yc, rfl⟩ := (S10.row 0 rfl).form
      generalize H.keysN n = Y at *
      replace S10 := Lib.hid S10
      clear R hb2
      go_wp2_with (at_builtin; refine wpList_push_sl rfl _ _ rfl (S10.out.later (belowAlloc _ _)) 1 rfl rfl _ _ _ _ rfl (cell_of_row _ _ _ _ _ _ (heapAllocNew _ _)) HIK.out.2 ?_)
      intro vb vd w9 S11
      have S12 := Lib.hid (Sep.behind (A := [slsR (.slice vb (K.length + 1) vd) (K ++ [.slice ya Y.length yc]), slsR (.slice va (I.length + 1) vc) (I ++ [.slice sa X.length sc]), numsR (.slice (some ⟨g, 0, none⟩) L.length lc) L, heapR h H]) S11)
      clear S10 S11
      go_wp2
      exact ⟨⟨k + 1, _, _, _, by have := HLT.out; omega, by go_num, HT1.out sa ya sc yc, S12.out⟩, by have := HLT.out; simp [intOf]; omega⟩
    · obtain rfl : k = L.length := by omega
      have HT1 := Lib.hid hT
      have Z := Lib.hid (S6.sweep 3 rfl HG.out.1 (by omega) _ E (HT.out.1.keep fun p v hp => cellBelow hp S6.below) (ArgS.old HT.out.2.1) (by have := HT.out.2.2; omega))
      clear hT hlt S6
      go_wp2_with fail
      refine Z.out.mono ?_
      rintro e w4 ⟨⟨f, rfl, -⟩, S7⟩
      replace S7 : Sep w ([slsR (.slice ka K.length kc) K, slsR (.slice ia I.length ic) I, numsR (.slice la L.length lc) L, heapR h (H.sweep E)] ++ T) w4 := S7
      replace S7 := Lib.hid S7
      clear Z
      go_wp2
      go_loopw [10] (fun i wr => ∃ k : Nat, k ≤ L.length ∧ i = .int .i64 k ∧ Sep w ([slsR (.slice ka K.length kc) K, slsR (.slice ia I.length ic) I, numsR (.slice la L.length lc) L, heapR h (H.sweep E)] ++ T) wr) (fun i _ => L.length - (intOf i).toNat)
      case atStart => exact ⟨0, by omega, rfl, S7.out⟩
      case round =>
        clear S7
        obtain ⟨k, hk, rfl, S8⟩ := hrel
        by_cases hlt : k < L.length
        · obtain ⟨ja, jc, qa, qc, n, hn, hI, hK, mI, mK⟩ := HT1.out.2.2 k hlt
          have hkn := HLO.out.1 n (List.mem_of_getElem? hn)
          obtain ⟨g, rfl⟩ : ∃ g, la = some ⟨g, 0, none⟩ := by
            rcases (S8.row 2 rfl).shape with ⟨h1, h2⟩ | ⟨g, cap, h1, _⟩
            · rw [h2] at hlt; simp at hlt
            · exact ⟨g, (Value.slice.inj h1).1⟩
          have c0 := (S8.row 2 rfl).cell (f := intCell) (m := 1) (fun _ => rfl) rfl hn (j := 0) (u := .int .i64 n) rfl
          rw [Nat.mul_one, Nat.add_zero] at c0
          have hil : (k : Int) < L.length := by omega
          obtain ⟨g2, rfl⟩ : ∃ g, ia = some ⟨g, 0, none⟩ := by
            rcases (S8.row 1 rfl).shape with ⟨h1, h2⟩ | ⟨g, cap, h1, _⟩
            · rw [h2] at hI; simp at hI
            · exact ⟨g, (Value.slice.inj h1).1⟩
          obtain ⟨g3, rfl⟩ : ∃ g, ka = some ⟨g, 0, none⟩ := by
            rcases (S8.row 0 rfl).shape with ⟨h1, h2⟩ | ⟨g, cap, h1, _⟩
            · rw [h2] at hK; simp at hK
            · exact ⟨g, (Value.slice.inj h1).1⟩
          have hIl : (k : Int) < I.length := by have := HT1.out.1; omega
          have hKl : (k : Int) < K.length := by have := HT1.out.2.1; omega
          have hn2 := sweep_kind HG.out.2 (HLO.out.2 n (List.mem_of_getElem? hn)) hkn
          have e1 := sweep_items (HLO.out.2 n (List.mem_of_getElem? hn))
          have e2 := sweep_keys (HLO.out.2 n (List.mem_of_getElem? hn))
          have GS := HG.out.1.sweep E
          have HCC : Hid (∀ (B : Res) W, Sep w (B :: ([slsR (.slice (some ⟨g3, 0, none⟩) K.length kc) K, slsR (.slice (some ⟨g2, 0, none⟩) I.length ic) I, numsR (.slice (some ⟨g, 0, none⟩) L.length lc) L, heapR h (H.sweep E)] ++ T)) W → W.cell? ⟨g2, k, none⟩ = some (.slice ja (H.itemsN n).length jc) ∧ W.cell? ⟨g3, k, none⟩ = some (.slice qa (H.keysN n).length qc)) := Lib.hid fun B W S => by
            have k1 := (S.row 2 rfl).cell (f := slCell) (m := 1) (fun _ => rfl) rfl hI (j := 0) (u := .slice ja (H.itemsN n).length jc) rfl
            have k2 := (S.row 1 rfl).cell (f := slCell) (m := 1) (fun _ => rfl) rfl hK (j := 0) (u := .slice qa (H.keysN n).length qc) rfl
            rw [Nat.mul_one, Nat.add_zero] at k1 k2
            exact ⟨k1, k2⟩
          have HKi := Lib.hid (fun (B : Res) W (S : Sep w (B :: ([slsR (.slice (some ⟨g3, 0, none⟩) K.length kc) K, slsR (.slice (some ⟨g2, 0, none⟩) I.length ic) I, numsR (.slice (some ⟨g, 0, none⟩) L.length lc) L, heapR h (H.sweep E)] ++ T)) W) => S.kind 4 rfl (V.ref n hkn))
          have HIt := Lib.hid (fun (B : Res) W (S : Sep w (B :: ([slsR (.slice (some ⟨g3, 0, none⟩) K.length kc) K, slsR (.slice (some ⟨g2, 0, none⟩) I.length ic) I, numsR (.slice (some ⟨g, 0, none⟩) L.length lc) L, heapR h (H.sweep E)] ++ T)) W) => by
            have := S.items 4 rfl GS (by omega) (V.ref n hkn)
            rw [HeapM.items_ref, e1] at this; exact this)
          have HKe := Lib.hid (fun (B : Res) W (S : Sep w (B :: ([slsR (.slice (some ⟨g3, 0, none⟩) K.length kc) K, slsR (.slice (some ⟨g2, 0, none⟩) I.length ic) I, numsR (.slice (some ⟨g, 0, none⟩) L.length lc) L, heapR h (H.sweep E)] ++ T)) W) => by
            have := S.keys 4 rfl (V.ref n hkn)
            rw [HeapM.keys_ref, e2] at this; exact this)
          generalize (H.sweep E).kind (V.ref n hkn) = kd at *
          have hn3 : (kd == 0) = false := by simpa using hn2
          generalize H.itemsN n = X at *
          generalize H.keysN n = Y at *
          have HMM := Lib.hid (And.intro mI mK)
          have HLT := Lib.hid hlt
          replace S8 := Lib.hid S8
          obtain ⟨base, hbase⟩ : ∃ b, b = [slsR (.slice (some ⟨g3, 0, none⟩) K.length kc) K, slsR (.slice (some ⟨g2, 0, none⟩) I.length ic) I, numsR (.slice (some ⟨g, 0, none⟩) L.length lc) L, heapR h (H.sweep E)] ++ T := ⟨_, rfl⟩
          have HBASE := Lib.hid hbase
          rw [← hbase] at HCC HKi HIt HKe S8 ⊢
          have HMB : Hid (valsR (.slice ja X.length jc) X ∈ base ∧ valsR (.slice qa Y.length qc) Y ∈ base) := Lib.hid (by rw [hbase]; exact ⟨List.mem_append_right _ HMM.out.1, List.mem_append_right _ HMM.out.2⟩)
          have hvv : (V.ref n hkn).val = .agg #[.int .i64 4, .int .i64 n, .string ⟨#[]⟩] := rfl
          rw [hvv] at HKi HIt HKe
          clear hn hI hK mI mK hlt hn2 e1 e2 GS hbase hvv
          go_wp2_with fail
          refine (ref_ok wr n).mono ?_
          rintro e w5 ⟨rfl, hb1⟩
          have S9 := Lib.hid ((S8.out.later hb1).alloc (valObj (V.ref n hkn)))
          clear hb1 S8 c0
          go_upto_region 26 with fail
          obtain ⟨wb, hwb⟩ : ∃ wb, w5.alloc (.cells #[.int .i64 4, .int .i64 n, .string ⟨#[]⟩] 26) = wb := ⟨_, rfl⟩
          have hwb' : w5.alloc (valObj (V.ref n hkn)) = wb := hwb
          rw [hwb'] at S9
          obtain ⟨vb, hvb⟩ : ∃ vb, w5.heap.size = vb := ⟨_, rfl⟩
          rw [hvb] at S9
          rw [hwb, hvb]
          clear hwb hwb' hvb
          have K1 := Lib.hid (HKi.out (boxR vb (valObj (V.ref n hkn))))
          have K2 := Lib.hid (HIt.out (boxR vb (valObj (V.ref n hkn))))
          have K3 := Lib.hid (HKe.out (boxR vb (valObj (V.ref n hkn))))
          have K4 : Hid (∀ W sa sc Z ja jc, Sep w (valsR (.slice sa Z.length sc) Z :: boxR vb (valObj (V.ref n hkn)) :: base) W → valsR (.slice ja Z.length jc) Z ∈ base → Calls Try.prog 16 #[.slice sa Z.length sc, .slice ja Z.length jc] W fun e w1 => e = .returned (.bool true) ∧ Sep w (boxR vb (valObj (V.ref n hkn)) :: base) w1) := Lib.hid fun W sa sc Z ja jc S hm => by
            refine (same_vals W _ _ Z Z (S.row 0 rfl).sees' (S.rowMem (List.mem_cons_of_mem _ (List.mem_cons_of_mem _ hm))).sees').mono fun e w1 ⟨h1, q, h2⟩ => ⟨by rw [h1]; simp, by rw [h2]; exact S.tail.drewN q⟩
          have KK : Hid (∀ W, Sep w (boxR vb (valObj (V.ref n hkn)) :: base) W → (W.cell? ⟨vb, 0, none⟩ = some (.int .i64 4) ∧ W.cell? ⟨vb, 1, none⟩ = some (.int .i64 n) ∧ W.cell? ⟨vb, 2, none⟩ = some (.string ⟨#[]⟩)) ∧ W.cell? ⟨g2, k, none⟩ = some (.slice ja X.length jc) ∧ W.cell? ⟨g3, k, none⟩ = some (.slice qa Y.length qc)) := Lib.hid fun W S => by
            obtain ⟨x0, x1, x2, -⟩ := valBlkO (S.box 0 rfl)
            exact ⟨⟨x0, x1, x2⟩, HCC.out _ _ S⟩
          clear HCC HKi HIt HKe
          have hk0 : (0 : Int) ≤ k := by omega
          go_cut [102] (fun s102 wx => s102 = .bool false ∧ Sep w base wx)
          case first =>
            have T0 := S9.out
            clear S9
            go_region_held3 (fun W => (W.cell? ⟨vb, 0, none⟩ = some (.int .i64 4) ∧ W.cell? ⟨vb, 1, none⟩ = some (.int .i64 n) ∧ W.cell? ⟨vb, 2, none⟩ = some (.string ⟨#[]⟩)) ∧ W.cell? ⟨g2, k, none⟩ = some (.slice ja X.length jc) ∧ W.cell? ⟨g3, k, none⟩ = some (.slice qa Y.length qc))
              (first | exact KK.out _ (by assumption) | exact KK.out _ (Sep.tail (by assumption)) | exact KK.out _ (Sep.drew (by assumption)))
              (first
              | (go_at_call 24; refine (K1.out _ (by first | assumption | exact Sep.drew (by assumption))).mono ?_; rintro e w6 ⟨rfl, T1, -⟩)
              | (go_at_call 15; refine (K2.out _ (by first | assumption | exact Sep.drew (by assumption))).mono ?_; rintro e w6 ⟨sv, rfl, T1, -⟩; obtain ⟨sa, sc, rfl⟩ := (T1.row 0 rfl).form)
              | (go_at_call 22; refine (K3.out _ (by first | assumption | exact Sep.drew (by assumption))).mono ?_; rintro e w6 ⟨sv, rfl, T1, -⟩; obtain ⟨sa, sc, rfl⟩ := (T1.row 0 rfl).form)
              | (go_at_call 16; refine (K4.out _ _ _ _ _ _ (by assumption) (by first | exact HMB.out.1 | exact HMB.out.2)).mono ?_; rintro e w6 ⟨rfl, T1⟩))
            all_goals (go_wp2_with fail; go_meet; exact ⟨rfl, Sep.tail (by assumption)⟩)
          case rest =>
            obtain ⟨rfl, S10⟩ := hcut
            replace S10 := Lib.hid S10
            clear S9 K1 K2 K3 K4 KK
            go_wp2
            exact ⟨⟨k + 1, by have := HLT.out; omega, by go_num, S10.out⟩, by have := HLT.out; simp [intOf]; omega⟩
        · obtain rfl : k = L.length := by omega
          replace S8 := Lib.hid S8
          clear hlt
          go_wp2_with fail
          refine (kept_ok _).mono ?_
          rintro e w5 ⟨rfl, hb5⟩
          have S9 := S8.out.later hb5
          have R := Lib.hid (reached_ok S9 3 rfl (HG.out.1.sweep E) (by omega) (HG.out.2.sweep E) _ E HT.out.1 HT.out.2.2)
          clear S8 hb5 S9
          go_wp2_with fail
          refine R.out.mono ?_
          rintro e w6 ⟨rv, z, rfl, hz, S10⟩
          have hq : (H.sweep E).reachK E z = L := by
            rw [reachK_sweep] at hz ⊢
            obtain ⟨k, k1, k2⟩ := HL.out
            rw [k2]; exact reachK_end H E hz k1
          rw [hq] at S10
          obtain ⟨ra, rc, rfl⟩ := (S10.row 0 rfl).form
          have C := same_numbers w6 _ _ L L (SeesN.of_slIs (S10.row 0 rfl)) (SeesN.of_slIs (S10.row 3 rfl)) ⟨HLO.out.1, HLO.out.1⟩
          rw [show decide (L = L) = true by simp] at C
          replace C := Lib.hid C
          replace S10 := Lib.hid S10
          clear R hz hq
          go_wp2_with fail
          refine C.out.mono ?_
          rintro e w7 ⟨rfl, q, rfl⟩
          have B := Lib.hid (S10.out.drewN q).below
          obtain ⟨w7, hw7⟩ : ∃ w7, w6.drewN q = w7 := ⟨_, rfl⟩
          rw [hw7] at B ⊢
          clear hw7 C S10
          go_wp2
          go_ret
          exact ⟨rfl, B.out⟩
set_option maxRecDepth 100000 in
theorem lifted (os : Os) (started : os.Started) (H : Type) (enc : TypeId × Value → H) (F : Stop.Interp) :
    ReturnsInHanded {} Try.checked os 4 .any ((Rows.OpenSpec.upto Rows.heapKeepsSpec).pre6 enc Try.prog Try.f4 Rows.heapKeepsUptoRow.domain false) (((Rows.OpenSpec.upto Rows.heapKeepsSpec).at F).post enc Try.prog Try.f4 false true false false) := by
  refine law_lift_upto (C := Try.checked) own started (by kernel_rfl) Try.func4
    (OpenSpec.witness (enc := enc) (C := Try.checked) (s := Rows.OpenSpec.upto Rows.heapKeepsSpec) (k := Rows.uptoSmall) rfl false ⟨#[], #[.slice none 0 0, .slice none 0 0], []⟩ 8 (by kernel_rfl) (by kernel_rfl) (by kernel_rfl)
      (x := ([.nil, .nil], [], [])) (by kernel_rfl) rfl (by kernel_rfl))
    (by kernel_rfl) (by kernel_rfl) rfl (fun ds h => by
      match ds, h with
      | [d1, d2], _ => exact ⟨rfl, rfl, rfl⟩) rfl Try.underlying4 ?_
  intro W base args ds ps hval hA hlt hbk hwt hsh
  rw [Try.params4] at hA hval
  obtain ⟨v0, vs0, d0, ds0, p0, q0, hargs, rfl, rfl, h0, r0⟩ := trodAll_cons hA
  obtain ⟨v1, vs1, d1, ds1, p1, q1, rfl, rfl, rfl, h1, r1⟩ := trodAll_cons r0
  obtain ⟨rfl, rfl, rfl⟩ := trodAll_nil r1
  obtain rfl : args = #[v0, v1] := by cases args; simp_all
  obtain ⟨x0, len0, cap0, rfl⟩ := okWide_slice Try.underlying33 (hval 0 33 v0 rfl rfl)
  obtain ⟨fuel0, hf0⟩ := h0
  obtain ⟨l0, s0, b0⟩ := open_ops (v := .slice x0 len0 cap0) hf0
  obtain ⟨x1, len1, cap1, rfl⟩ := okWide_slice Try.underlying22 (hval 1 22 v1 rfl rfl)
  obtain ⟨fuel1, hf1⟩ := h1
  obtain ⟨l1, s1, g1⟩ := open_vals (v := .slice x1 len1 cap1) hf1
  -- WALK
  simp only [Rows.uptoBulkAll] at hbk
  have hN : opsW l0 ≤ 3000000 := by have h0 : opsW l0 ≤ Rows.uptoBulk d0 := b0; omega
  cases hb : bigM l0 with
  | true => exact big W _ _ l0 l1 s0 s1 hN hb
  | false =>
    by_cases hE : l1.length ≤ 60
    · exact small W _ _ l0 l1 s0 s1 g1 hN hb hE
    · exact far W _ _ l0 l1 s0 s1 hN hb (by omega)
theorem proved : Rows.HeapKeepsUptoSaid :=
  OpenClaim.holds_of_cond 4 Try.f4 rfl rfl rfl rfl rfl rfl rfl ⟨rfl, rfl, rfl, rfl, rfl⟩ rfl rfl rfl rfl rfl (by kernel_rfl) Try.func4 (by kernel_rfl)
    (of_decide_eq_true (by kernel_rfl)) (by unfold Func.isWrapper; first | (rw [if_pos (by decide +kernel)]; kernel_rfl) | (rw [if_neg (by decide +kernel)]; exact ⟨rfl, rfl⟩))
    (fun os started H enc _ F => lifted os started H enc F)
#print axioms proved
end Go.Proofs.Ytoancpjlkhijiaa.heapKeeps
