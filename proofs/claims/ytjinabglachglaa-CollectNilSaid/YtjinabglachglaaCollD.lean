/- collect: some, Reached. -/
import Derived.Test.YtjinabglachglaaCollC
namespace Go.Proofs.Ytjinabglachglaa
set_option linter.unusedSimpArgs false
open Go.RowKit
set_option linter.unusedVariables false
set_option maxRecDepth 100000 in
set_option maxHeartbeats 1600000 in
theorem some_r {w W : World} {Rs : List Res} (S : Sep w Rs W) (ho : Option Addr) {H : HeapM} {N : Nat} (hh : HAns w ho H) (G : H.Good N) (hN : N ≤ 4000000) (bx : Nat) (p : Int → Bool)
    (hc : ∀ (Qs : List Res) (W' : World) (n : Int), okI n → (getL H.objs n).isSome = true → Sep w (Qs ++ Rs) W' → Calls Try.prog 46 #[.int .i64 n, .pointer (some ⟨bx, 0, none⟩)] W' fun e W'' => e = .returned (.bool (p n)) ∧ Sep w (Qs ++ Rs) W'') :
    Calls Try.prog 45 #[.pointer ho, .func (.func 46) #[] #[.pointer (some ⟨bx, 0, none⟩)]] W fun e W' => ∃ v, e = .returned v ∧ Sep w (numsR v ((H.objs.map (·.1)).filter p) :: Rs) W' := by
  have A1 := Lib.hid (S.rAll hh G hN)
  have HG := Lib.hid (And.intro G hN)
  have HC := Lib.hid hc
  clear S hh G hN hc
  go_enter Try.func45, Try.ntmps45
  go_wp2_with fail
  refine A1.out.mono ?_
  rintro e w2 ⟨rv, rfl, S1⟩
  obtain ⟨ra, rc, rfl⟩ := (S1.row 0 rfl).form
  have hkl : ((H.objs.map (·.1)).length : Int) ≤ 4000000 := by have := HG.out.1.len; have := HG.out.2; simp; omega
  have hnum := HeapM.keys_nums HG.out.1
  obtain ⟨ks, hks⟩ : ∃ ks, H.objs.map (·.1) = ks := ⟨_, rfl⟩
  rw [hks] at S1 hkl hnum ⊢
  have HNUM := Lib.hid hnum
  have HKS := Lib.hid hks
  have S2 := Lib.hid (S1.addRow (Below.refl _ _) (e := 2) (m := 1) (f := intCell) (v := .slice none 0 0) (l := []) (World.ownsRow_nil _ _ _ _) (by simp [Value.ownBlock]))
  clear A1 S1 hks hnum
  go_wp2
  go_loopw [5, 11] (fun out i wr => ∃ k : Nat, k ≤ ks.length ∧ i = .int .i64 k ∧ Sep w (numsR out ((ks.take k).filter p) :: numsR (.slice ra ks.length rc) ks :: Rs) wr) (fun _ i _ => ks.length - (intOf i).toNat)
  case atStart => exact ⟨0, by omega, rfl, S2.out⟩
  case round =>
    clear S2
    obtain ⟨k, hk, rfl, S1⟩ := hrel
    obtain ⟨oa, oc, rfl⟩ := (S1.row 0 rfl).form
    by_cases hlt : k < ks.length
    · obtain ⟨n, hn⟩ : ∃ n, ks[k]? = some n := ⟨ks[k], by simp [hlt]⟩
      obtain ⟨g, rfl⟩ := S1.numAddr 1 rfl hlt
      have c0 := S1.numCell 1 rfl hn
      have hkn := HNUM.out.ok HG.out.1 HG.out.2 n (List.mem_of_getElem? hn)
      have hlv := HNUM.out.2 n (List.mem_of_getElem? hn)
      have hil : (k : Int) < ks.length := by omega
      have hfl : ((ks.take k).filter p).length + 1 ≤ 17592186044416 := by
        have := List.length_filter_le p (ks.take k)
        simp at this; omega
      have hnext : (ks.take (k + 1)).filter p = (ks.take k).filter p ++ [n].filter p := by rw [List.take_add_one, hn, List.filter_append]; rfl
      have C := HC.out [numsR (.slice oa ((ks.take k).filter p).length oc) ((ks.take k).filter p), numsR (.slice (some ⟨g, 0, none⟩) ks.length rc) ks] wr n hkn hlv S1
      obtain ⟨L, hL⟩ : ∃ L, (ks.take k).filter p = L := ⟨_, rfl⟩
      rw [hL] at C hfl hnext ⊢
      replace C := Lib.hid C
      have HX := Lib.hid (And.intro hlt (And.intro hfl hnext))
      clear S1 hL hfl hnext hn hlt hlv
      go_wp2_with fail
      refine C.out.mono ?_
      rintro e w3 ⟨rfl, S2⟩
      replace S2 : Sep w (numsR (.slice oa L.length oc) L :: numsR (.slice (some ⟨g, 0, none⟩) ks.length rc) ks :: Rs) w3 := S2
      replace S2 := Lib.hid S2
      clear c0 C
      cases hp : p n with
      | true =>
        have HP := Lib.hid hp
        clear hp
        go_wp2_with (at_builtin; refine wpList_push_sep rfl _ _ rfl (S2.out.later (belowAlloc _ _)) 0 rfl rfl _ _ rfl (cell_of_row _ _ _ _ _ _ (heapAllocNew _ _)) HX.out.2.1 ?_)
        intro va vc w4 S3
        replace S3 := Lib.hid S3
        go_wp2
        refine ⟨⟨k + 1, by have := HX.out.1; omega, by go_num, ?_⟩, by have := HX.out.1; simp [intOf]; omega⟩
        rw [HX.out.2.2, List.filter_cons_of_pos HP.out]; exact S3.out
      | false =>
        have HP := Lib.hid hp
        clear hp
        go_wp2
        refine ⟨⟨k + 1, by have := HX.out.1; omega, by go_num, ?_⟩, by have := HX.out.1; simp [intOf]; omega⟩
        rw [HX.out.2.2, List.filter_cons_of_neg (by rw [HP.out]; decide), List.filter_nil, List.append_nil]; exact S2.out
    · obtain rfl : k = ks.length := by omega
      rw [List.take_length] at S1 ⊢
      obtain ⟨fl, hfl⟩ : ∃ fl, ks.filter p = fl := ⟨_, rfl⟩
      rw [hfl] at S1 ⊢
      have HFL := Lib.hid hfl
      replace S1 := Lib.hid (S1.swap.tail)
      clear hlt hk hfl
      go_wp2
      go_ret
      rw [HKS.out, HFL.out]
      exact ⟨_, rfl, S1.out⟩
set_option maxRecDepth 100000 in
set_option maxHeartbeats 1600000 in
theorem some_g {w W : World} {Rs : List Res} (S : Sep w Rs W) (ho : Option Addr) {H : HeapM} {N : Nat} (hh : HAns w ho H) (G : H.Good N) (hN : N ≤ 4000000) (bx hx : Nat) (p : Int → Bool)
    (hc : ∀ (Qs : List Res) (W' : World) (n : Int), okI n → (getL H.objs n).isSome = true → Sep w (Qs ++ Rs) W' → Calls Try.prog 47 #[.int .i64 n, .pointer (some ⟨bx, 0, none⟩), .pointer (some ⟨hx, 0, none⟩)] W' fun e W'' => e = .returned (.bool (p n)) ∧ Sep w (Qs ++ Rs) W'') :
    Calls Try.prog 45 #[.pointer ho, .func (.func 47) #[] #[.pointer (some ⟨bx, 0, none⟩), .pointer (some ⟨hx, 0, none⟩)]] W fun e W' => ∃ v, e = .returned v ∧ Sep w (numsR v ((H.objs.map (·.1)).filter p) :: Rs) W' := by
  have A1 := Lib.hid (S.rAll hh G hN)
  have HG := Lib.hid (And.intro G hN)
  have HC := Lib.hid hc
  clear S hh G hN hc
  go_enter Try.func45, Try.ntmps45
  go_wp2_with fail
  refine A1.out.mono ?_
  rintro e w2 ⟨rv, rfl, S1⟩
  obtain ⟨ra, rc, rfl⟩ := (S1.row 0 rfl).form
  have hkl : ((H.objs.map (·.1)).length : Int) ≤ 4000000 := by have := HG.out.1.len; have := HG.out.2; simp; omega
  have hnum := HeapM.keys_nums HG.out.1
  obtain ⟨ks, hks⟩ : ∃ ks, H.objs.map (·.1) = ks := ⟨_, rfl⟩
  rw [hks] at S1 hkl hnum ⊢
  have HNUM := Lib.hid hnum
  have HKS := Lib.hid hks
  have S2 := Lib.hid (S1.addRow (Below.refl _ _) (e := 2) (m := 1) (f := intCell) (v := .slice none 0 0) (l := []) (World.ownsRow_nil _ _ _ _) (by simp [Value.ownBlock]))
  clear A1 S1 hks hnum
  go_wp2
  go_loopw [5, 11] (fun out i wr => ∃ k : Nat, k ≤ ks.length ∧ i = .int .i64 k ∧ Sep w (numsR out ((ks.take k).filter p) :: numsR (.slice ra ks.length rc) ks :: Rs) wr) (fun _ i _ => ks.length - (intOf i).toNat)
  case atStart => exact ⟨0, by omega, rfl, S2.out⟩
  case round =>
    clear S2
    obtain ⟨k, hk, rfl, S1⟩ := hrel
    obtain ⟨oa, oc, rfl⟩ := (S1.row 0 rfl).form
    by_cases hlt : k < ks.length
    · obtain ⟨n, hn⟩ : ∃ n, ks[k]? = some n := ⟨ks[k], by simp [hlt]⟩
      obtain ⟨g, rfl⟩ := S1.numAddr 1 rfl hlt
      have c0 := S1.numCell 1 rfl hn
      have hkn := HNUM.out.ok HG.out.1 HG.out.2 n (List.mem_of_getElem? hn)
      have hlv := HNUM.out.2 n (List.mem_of_getElem? hn)
      have hil : (k : Int) < ks.length := by omega
      have hfl : ((ks.take k).filter p).length + 1 ≤ 17592186044416 := by
        have := List.length_filter_le p (ks.take k)
        simp at this; omega
      have hnext : (ks.take (k + 1)).filter p = (ks.take k).filter p ++ [n].filter p := by rw [List.take_add_one, hn, List.filter_append]; rfl
      have C := HC.out [numsR (.slice oa ((ks.take k).filter p).length oc) ((ks.take k).filter p), numsR (.slice (some ⟨g, 0, none⟩) ks.length rc) ks] wr n hkn hlv S1
      obtain ⟨L, hL⟩ : ∃ L, (ks.take k).filter p = L := ⟨_, rfl⟩
      rw [hL] at C hfl hnext ⊢
      replace C := Lib.hid C
      have HX := Lib.hid (And.intro hlt (And.intro hfl hnext))
      clear S1 hL hfl hnext hn hlt hlv
      go_wp2_with fail
      refine C.out.mono ?_
      rintro e w3 ⟨rfl, S2⟩
      replace S2 : Sep w (numsR (.slice oa L.length oc) L :: numsR (.slice (some ⟨g, 0, none⟩) ks.length rc) ks :: Rs) w3 := S2
      replace S2 := Lib.hid S2
      clear c0 C
      cases hp : p n with
      | true =>
        have HP := Lib.hid hp
        clear hp
        go_wp2_with (at_builtin; refine wpList_push_sep rfl _ _ rfl (S2.out.later (belowAlloc _ _)) 0 rfl rfl _ _ rfl (cell_of_row _ _ _ _ _ _ (heapAllocNew _ _)) HX.out.2.1 ?_)
        intro va vc w4 S3
        replace S3 := Lib.hid S3
        go_wp2
        refine ⟨⟨k + 1, by have := HX.out.1; omega, by go_num, ?_⟩, by have := HX.out.1; simp [intOf]; omega⟩
        rw [HX.out.2.2, List.filter_cons_of_pos HP.out]; exact S3.out
      | false =>
        have HP := Lib.hid hp
        clear hp
        go_wp2
        refine ⟨⟨k + 1, by have := HX.out.1; omega, by go_num, ?_⟩, by have := HX.out.1; simp [intOf]; omega⟩
        rw [HX.out.2.2, List.filter_cons_of_neg (by rw [HP.out]; decide), List.filter_nil, List.append_nil]; exact S2.out
    · obtain rfl : k = ks.length := by omega
      rw [List.take_length] at S1 ⊢
      obtain ⟨fl, hfl⟩ : ∃ fl, ks.filter p = fl := ⟨_, rfl⟩
      rw [hfl] at S1 ⊢
      have HFL := Lib.hid hfl
      replace S1 := Lib.hid (S1.swap.tail)
      clear hlt hk hfl
      go_wp2
      go_ret
      rw [HKS.out, HFL.out]
      exact ⟨_, rfl, S1.out⟩
theorem reached1_ok {w W : World} {Rs : List Res} (S : Sep w Rs W) (i j : Nat) (bx b : Nat) (L : List Int) (hi : Rs[i]? = some (boxR bx (.cells #[.map (some b)] 72))) (hj : Rs[j]? = some (mapR exB b (isIn L))) (n : Int) (hn : okI n) :
    Calls Try.prog 46 #[.int .i64 n, .pointer (some ⟨bx, 0, none⟩)] W fun e W' => e = .returned (.bool (decide (n ∈ L))) ∧ Sep w Rs W' := by
  have c0 := cellAt (S.box i hi) 0 (v := .map (some b)) rfl
  have hg := S.mapGet j hj Try.underlying72 (fun W => Try.zeroValue4 W) n hn
  replace hg : (Instr.lookup 72 (.map (some b)) (.int .i64 n) false).run Try.prog W = .ok (.bool (decide (n ∈ L))) W := by
    refine hg.trans ?_
    unfold isIn
    by_cases h : n ∈ L
    · rw [if_pos h]; simp [exB, h]
    · rw [if_neg h]; simp [h]
  have HS := Lib.hid S
  generalize decide (n ∈ L) = d at *
  clear S hi hj
  go_enter Try.func46, Try.ntmps46
  go_wp2
  go_ret
  exact ⟨rfl, HS.out⟩
/-- What is reached, rising. -/
noncomputable def HeapM.reachedM (H : HeapM) (E : List V) : List Int := by
  classical exact (H.objs.map (·.1)).filter fun n => decide (H.R E n)
theorem HeapM.reachedM_of {H : HeapM} {E : List V} {L : List Int} (hL : ∀ n, n ∈ L ↔ H.R E n) : (H.objs.map (·.1)).filter (fun n => decide (n ∈ L)) = H.reachedM E := by
  unfold HeapM.reachedM
  refine List.filter_congr fun n _ => ?_
  simp [hL]
set_option maxRecDepth 100000 in
set_option maxHeartbeats 800000 in
theorem reached_is (w : World) (ho : Option Addr) {H : HeapM} {N : Nat} (hh : HAns w ho H) (G : H.Good N) (hN : N ≤ 4000000) (hk : H.Kinds) (sv : Value) (E : List V) (hs : SeesV w sv E) (hE : E.length ≤ 4000000) :
    Calls Try.prog 16 #[.pointer ho, sv] w fun e W => ∃ v, e = .returned v ∧ Sep w [numsR v (H.reachedM E)] W := by
  have M := Lib.hid (marks_ok w ho hh G hN hk sv E hs hE)
  have HG := Lib.hid (And.intro hh (And.intro G hN))
  obtain ⟨a, ac, rfl, a1, a2, a3⟩ := hs
  clear a1 a2 a3 hh G hN hk hE
  go_enter Try.func16, Try.ntmps16
  go_wp2_with fail
  refine M.out.mono ?_
  rintro e w1 ⟨b, L, rfl, S1, hL⟩
  have S2 := S1.alloc (.cells #[.map (some b)] 72)
  have C := Lib.hid (some_r S2 ho HG.out.1 HG.out.2.1 HG.out.2.2 w1.heap.size (fun n => decide (n ∈ L)) (fun Qs W' n hn _ S => by
    have := reached1_ok S Qs.length (Qs.length + 1) w1.heap.size b L (by simp) (by simp) n hn
    exact this))
  have HL := Lib.hid hL
  clear S1 S2 hL M
  go_wp2_with fail
  refine C.out.mono ?_
  rintro e w2 ⟨v, rfl, S3⟩
  rw [HeapM.reachedM_of HL.out] at S3
  replace S3 := Lib.hid (S3.sub (.cons_cons _ (.cons _ (.cons _ .slnil))))
  clear C
  go_wp2
  go_ret
  exact ⟨_, rfl, S3.out⟩
end Go.Proofs.Ytjinabglachglaa
