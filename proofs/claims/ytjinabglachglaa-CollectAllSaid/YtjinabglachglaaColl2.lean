import Derived.Test.YtjinabglachglaaColl1
import Derived.Deep.RegionHeld3
import Derived.Deep.CutRange
import Derived.Test.YtjinabglachglaaCore
/- collect: some, Reached. -/
namespace Go.Proofs.Ytjinabglachglaa
set_option linter.unusedSimpArgs false
open Go.RowKit
set_option linter.unusedVariables false
set_option maxRecDepth 100000 in
set_option maxHeartbeats 1600000 in
theorem some_r {w W : World} {Rs : List Res} (S : Sep w Rs W) (ho : Option Addr) {H : HeapM} {N : Nat} (hh : HAns w ho H) (G : H.Good N) (hN : N ≤ 4000000) (bx : Nat) (p : Int → Bool)
    (hc : ∀ (Qs : List Res) (W' : World) (n : Int), okI n → (getL H.objs n).isSome = true → Sep w (Qs ++ Rs) W' → Calls Try.prog 46 #[.int .i64 n, .pointer (some ⟨bx, 0, none⟩)] W' fun e W'' => e = .returned (.bool (p n)) ∧ Sep w (Qs ++ Rs) W'') :
    Calls Try.prog 45 #[.pointer ho, .func (.func 46) #[] #[.pointer (some ⟨bx, 0, none⟩)]] W fun e W' => ∃ v, e = .returned v ∧ Sep w (numsR v ((H.objs.map (·.1)).filter p) :: Rs) W' := by
  have A1 := Lib.hid (S.rAll hh G hN)
  have HG := Lib.hid (And.intro G hN)
  have HC := Lib.hid hc
  clear S hh G hN hc
  go_enter Try.func45, Try.ntmps45
  go_wp2_with fail
  refine A1.out.mono ?_
  rintro e w2 ⟨rv, rfl, S1⟩
  obtain ⟨ra, rc, rfl⟩ := (S1.row 0 rfl).form
  have hkl : ((H.objs.map (·.1)).length : Int) ≤ 4000000 := by have := HG.out.1.len; have := HG.out.2; simp; omega
  have hnum := HeapM.keys_nums HG.out.1
  obtain ⟨ks, hks⟩ : ∃ ks, H.objs.map (·.1) = ks := ⟨_, rfl⟩
  rw [hks] at S1 hkl hnum ⊢
  have HNUM := Lib.hid hnum
  have HKS := Lib.hid hks
  have S2 := Lib.hid (S1.addRow (Below.refl _ _) (e := 2) (m := 1) (f := intCell) (v := .slice none 0 0) (l := []) (World.ownsRow_nil _ _ _ _) (by simp [Value.ownBlock]))
  clear A1 S1 hks hnum
  go_wp2
  go_loopw [5, 11] (fun out i wr => ∃ k : Nat, k ≤ ks.length ∧ i = .int .i64 k ∧ Sep w (numsR out ((ks.take k).filter p) :: numsR (.slice ra ks.length rc) ks :: Rs) wr) (fun _ i _ => ks.length - (intOf i).toNat)
  case atStart => exact ⟨0, by omega, rfl, S2.out⟩
  case round =>
    clear S2
    obtain ⟨k, hk, rfl, S1⟩ := hrel
    obtain ⟨oa, oc, rfl⟩ := (S1.row 0 rfl).form
    by_cases hlt : k < ks.length
    · obtain ⟨n, hn⟩ : ∃ n, ks[k]? = some n := ⟨ks[k], by simp [hlt]⟩
      obtain ⟨g, rfl⟩ := S1.numAddr 1 rfl hlt
      have c0 := S1.numCell 1 rfl hn
      have hkn := HNUM.out.ok HG.out.1 HG.out.2 n (List.mem_of_getElem? hn)
      have hlv := HNUM.out.2 n (List.mem_of_getElem? hn)
      have hil : (k : Int) < ks.length := by omega
      have hfl : ((ks.take k).filter p).length + 1 ≤ 17592186044416 := by
        have := List.length_filter_le p (ks.take k)
        simp at this; omega
      have hnext : (ks.take (k + 1)).filter p = (ks.take k).filter p ++ [n].filter p := by rw [List.take_add_one, hn, List.filter_append]; rfl
      have C := HC.out [numsR (.slice oa ((ks.take k).filter p).length oc) ((ks.take k).filter p), numsR (.slice (some ⟨g, 0, none⟩) ks.length rc) ks] wr n hkn hlv S1
      obtain ⟨L, hL⟩ : ∃ L, (ks.take k).filter p = L := ⟨_, rfl⟩
      rw [hL] at C hfl hnext ⊢
      replace C := Lib.hid C
      have HX := Lib.hid (And.intro hlt (And.intro hfl hnext))
      clear S1 hL hfl hnext hn hlt hlv
      go_wp2_with fail
      refine C.out.mono ?_
      rintro e w3 ⟨rfl, S2⟩
      replace S2 : Sep w (numsR (.slice oa L.length oc) L :: numsR (.slice (some ⟨g, 0, none⟩) ks.length rc) ks :: Rs) w3 := S2
      replace S2 := Lib.hid S2
      clear c0 C
      cases hp : p n with
      | true =>
        have HP := Lib.hid hp
        clear hp
        go_wp2_with (at_builtin; refine wpList_push_sep rfl _ _ rfl (S2.out.later (belowAlloc _ _)) 0 rfl rfl _ _ rfl (cell_of_row _ _ _ _ _ _ (heapAllocNew _ _)) HX.out.2.1 ?_)
        intro va vc w4 S3
        replace S3 := Lib.hid S3
        go_wp2
        refine ⟨⟨k + 1, by have := HX.out.1; omega, by go_num, ?_⟩, by have := HX.out.1; simp [intOf]; omega⟩
        rw [HX.out.2.2, List.filter_cons_of_pos HP.out]; exact S3.out
      | false =>
        have HP := Lib.hid hp
        clear hp
        go_wp2
        refine ⟨⟨k + 1, by have := HX.out.1; omega, by go_num, ?_⟩, by have := HX.out.1; simp [intOf]; omega⟩
        rw [HX.out.2.2, List.filter_cons_of_neg (by rw [HP.out]; decide), List.filter_nil, List.append_nil]; exact S2.out
    · obtain rfl : k = ks.length := by omega
      rw [List.take_length] at S1 ⊢
      obtain ⟨fl, hfl⟩ : ∃ fl, ks.filter p = fl := ⟨_, rfl⟩
      rw [hfl] at S1 ⊢
      have HFL := Lib.hid hfl
      replace S1 := Lib.hid (S1.swap.tail)
      clear hlt hk hfl
      go_wp2
      go_ret
      rw [HKS.out, HFL.out]
      exact ⟨_, rfl, S1.out⟩
set_option maxRecDepth 100000 in
set_option maxHeartbeats 1600000 in
theorem some_g {w W : World} {Rs : List Res} (S : Sep w Rs W) (ho : Option Addr) {H : HeapM} {N : Nat} (hh : HAns w ho H) (G : H.Good N) (hN : N ≤ 4000000) (bx hx : Nat) (p : Int → Bool)
    (hc : ∀ (Qs : List Res) (W' : World) (n : Int), okI n → (getL H.objs n).isSome = true → Sep w (Qs ++ Rs) W' → Calls Try.prog 47 #[.int .i64 n, .pointer (some ⟨bx, 0, none⟩), .pointer (some ⟨hx, 0, none⟩)] W' fun e W'' => e = .returned (.bool (p n)) ∧ Sep w (Qs ++ Rs) W'') :
    Calls Try.prog 45 #[.pointer ho, .func (.func 47) #[] #[.pointer (some ⟨bx, 0, none⟩), .pointer (some ⟨hx, 0, none⟩)]] W fun e W' => ∃ v, e = .returned v ∧ Sep w (numsR v ((H.objs.map (·.1)).filter p) :: Rs) W' := by
  have A1 := Lib.hid (S.rAll hh G hN)
  have HG := Lib.hid (And.intro G hN)
  have HC := Lib.hid hc
  clear S hh G hN hc
  go_enter Try.func45, Try.ntmps45
  go_wp2_with fail
  refine A1.out.mono ?_
  rintro e w2 ⟨rv, rfl, S1⟩
  obtain ⟨ra, rc, rfl⟩ := (S1.row 0 rfl).form
  have hkl : ((H.objs.map (·.1)).length : Int) ≤ 4000000 := by have := HG.out.1.len; have := HG.out.2; simp; omega
  have hnum := HeapM.keys_nums HG.out.1
  obtain ⟨ks, hks⟩ : ∃ ks, H.objs.map (·.1) = ks := ⟨_, rfl⟩
  rw [hks] at S1 hkl hnum ⊢
  have HNUM := Lib.hid hnum
  have HKS := Lib.hid hks
  have S2 := Lib.hid (S1.addRow (Below.refl _ _) (e := 2) (m := 1) (f := intCell) (v := .slice none 0 0) (l := []) (World.ownsRow_nil _ _ _ _) (by simp [Value.ownBlock]))
  clear A1 S1 hks hnum
  go_wp2
  go_loopw [5, 11] (fun out i wr => ∃ k : Nat, k ≤ ks.length ∧ i = .int .i64 k ∧ Sep w (numsR out ((ks.take k).filter p) :: numsR (.slice ra ks.length rc) ks :: Rs) wr) (fun _ i _ => ks.length - (intOf i).toNat)
  case atStart => exact ⟨0, by omega, rfl, S2.out⟩
  case round =>
    clear S2
    obtain ⟨k, hk, rfl, S1⟩ := hrel
    obtain ⟨oa, oc, rfl⟩ := (S1.row 0 rfl).form
    by_cases hlt : k < ks.length
    · obtain ⟨n, hn⟩ : ∃ n, ks[k]? = some n := ⟨ks[k], by simp [hlt]⟩
      obtain ⟨g, rfl⟩ := S1.numAddr 1 rfl hlt
      have c0 := S1.numCell 1 rfl hn
      have hkn := HNUM.out.ok HG.out.1 HG.out.2 n (List.mem_of_getElem? hn)
      have hlv := HNUM.out.2 n (List.mem_of_getElem? hn)
      have hil : (k : Int) < ks.length := by omega
      have hfl : ((ks.take k).filter p).length + 1 ≤ 17592186044416 := by
        have := List.length_filter_le p (ks.take k)
        simp at this; omega
      have hnext : (ks.take (k + 1)).filter p = (ks.take k).filter p ++ [n].filter p := by rw [List.take_add_one, hn, List.filter_append]; rfl
      have C := HC.out [numsR (.slice oa ((ks.take k).filter p).length oc) ((ks.take k).filter p), numsR (.slice (some ⟨g, 0, none⟩) ks.length rc) ks] wr n hkn hlv S1
      obtain ⟨L, hL⟩ : ∃ L, (ks.take k).filter p = L := ⟨_, rfl⟩
      rw [hL] at C hfl hnext ⊢
      replace C := Lib.hid C
      have HX := Lib.hid (And.intro hlt (And.intro hfl hnext))
      clear S1 hL hfl hnext hn hlt hlv
      go_wp2_with fail
      refine C.out.mono ?_
      rintro e w3 ⟨rfl, S2⟩
      replace S2 : Sep w (numsR (.slice oa L.length oc) L :: numsR (.slice (some ⟨g, 0, none⟩) ks.length rc) ks :: Rs) w3 := S2
      replace S2 := Lib.hid S2
      clear c0 C
      cases hp : p n with
      | true =>
        have HP := Lib.hid hp
        clear hp
        go_wp2_with (at_builtin; refine wpList_push_sep rfl _ _ rfl (S2.out.later (belowAlloc _ _)) 0 rfl rfl _ _ rfl (cell_of_row _ _ _ _ _ _ (heapAllocNew _ _)) HX.out.2.1 ?_)
        intro va vc w4 S3
        replace S3 := Lib.hid S3
        go_wp2
        refine ⟨⟨k + 1, by have := HX.out.1; omega, by go_num, ?_⟩, by have := HX.out.1; simp [intOf]; omega⟩
        rw [HX.out.2.2, List.filter_cons_of_pos HP.out]; exact S3.out
      | false =>
        have HP := Lib.hid hp
        clear hp
        go_wp2
        refine ⟨⟨k + 1, by have := HX.out.1; omega, by go_num, ?_⟩, by have := HX.out.1; simp [intOf]; omega⟩
        rw [HX.out.2.2, List.filter_cons_of_neg (by rw [HP.out]; decide), List.filter_nil, List.append_nil]; exact S2.out
    · obtain rfl : k = ks.length := by omega
      rw [List.take_length] at S1 ⊢
      obtain ⟨fl, hfl⟩ : ∃ fl, ks.filter p = fl := ⟨_, rfl⟩
      rw [hfl] at S1 ⊢
      have HFL := Lib.hid hfl
      replace S1 := Lib.hid (S1.swap.tail)
      clear hlt hk hfl
      go_wp2
      go_ret
      rw [HKS.out, HFL.out]
      exact ⟨_, rfl, S1.out⟩
theorem reached1_ok {w W : World} {Rs : List Res} (S : Sep w Rs W) (i j : Nat) (bx b : Nat) (L : List Int) (hi : Rs[i]? = some (boxR bx (.cells #[.map (some b)] 72))) (hj : Rs[j]? = some (mapR exB b (isIn L))) (n : Int) (hn : okI n) :
    Calls Try.prog 46 #[.int .i64 n, .pointer (some ⟨bx, 0, none⟩)] W fun e W' => e = .returned (.bool (decide (n ∈ L))) ∧ Sep w Rs W' := by
  have c0 := cellAt (S.box i hi) 0 (v := .map (some b)) rfl
  have hg := S.mapGet j hj Try.underlying72 (fun W => Try.zeroValue4 W) n hn
  replace hg : (Instr.lookup 72 (.map (some b)) (.int .i64 n) false).run Try.prog W = .ok (.bool (decide (n ∈ L))) W := by
    refine hg.trans ?_
    unfold isIn
    by_cases h : n ∈ L
    · rw [if_pos h]; simp [exB, h]
    · rw [if_neg h]; simp [h]
  have HS := Lib.hid S
  generalize decide (n ∈ L) = d at *
  clear S hi hj
  go_enter Try.func46, Try.ntmps46
  go_wp2
  go_ret
  exact ⟨rfl, HS.out⟩
/-- What is reached, rising. -/
noncomputable def HeapM.reachedM (H : HeapM) (E : List V) : List Int := by
  classical exact (H.objs.map (·.1)).filter fun n => decide (H.R E n)
theorem HeapM.reachedM_of {H : HeapM} {E : List V} {L : List Int} (hL : ∀ n, n ∈ L ↔ H.R E n) : (H.objs.map (·.1)).filter (fun n => decide (n ∈ L)) = H.reachedM E := by
  unfold HeapM.reachedM
  refine List.filter_congr fun n _ => ?_
  simp [hL]
set_option maxRecDepth 100000 in
set_option maxHeartbeats 800000 in
theorem reached_is (w : World) (ho : Option Addr) {H : HeapM} {N : Nat} (hh : HAns w ho H) (G : H.Good N) (hN : N ≤ 4000000) (hk : H.Kinds) (sv : Value) (E : List V) (hs : SeesV w sv E) (hE : E.length ≤ 4000000) :
    Calls Try.prog 16 #[.pointer ho, sv] w fun e W => ∃ v, e = .returned v ∧ Sep w [numsR v (H.reachedM E)] W := by
  have M := Lib.hid (marks_ok w ho hh G hN hk sv E hs hE)
  have HG := Lib.hid (And.intro hh (And.intro G hN))
  obtain ⟨a, ac, rfl, a1, a2, a3⟩ := hs
  clear a1 a2 a3 hh G hN hk hE
  go_enter Try.func16, Try.ntmps16
  go_wp2_with fail
  refine M.out.mono ?_
  rintro e w1 ⟨b, L, rfl, S1, hL⟩
  have S2 := S1.alloc (.cells #[.map (some b)] 72)
  have C := Lib.hid (some_r S2 ho HG.out.1 HG.out.2.1 HG.out.2.2 w1.heap.size (fun n => decide (n ∈ L)) (fun Qs W' n hn _ S => by
    have := reached1_ok S Qs.length (Qs.length + 1) w1.heap.size b L (by simp) (by simp) n hn
    exact this))
  have HL := Lib.hid hL
  clear S1 S2 hL M
  go_wp2_with fail
  refine C.out.mono ?_
  rintro e w2 ⟨v, rfl, S3⟩
  rw [HeapM.reachedM_of HL.out] at S3
  replace S3 := Lib.hid (S3.sub (.cons_cons _ (.cons _ (.cons _ .slnil))))
  clear C
  go_wp2
  go_ret
  exact ⟨_, rfl, S3.out⟩
end Go.Proofs.Ytjinabglachglaa
/- collect: Garbage. -/
namespace Go.Proofs.Ytjinabglachglaa
set_option linter.unusedSimpArgs false
open Go.RowKit
set_option linter.unusedVariables false
set_option maxRecDepth 100000 in
set_option maxHeartbeats 1600000 in
theorem garbage1_ok {w W : World} {Rs : List Res} (S : Sep w Rs W) (i j l : Nat) (bx hx b : Nat) (L : List Int) (ho : Option Addr) {H : HeapM} {N : Nat} (hh : HAns w ho H) (G : H.Good N) (hN : N ≤ 4000000)
    (hi : Rs[i]? = some (boxR bx (.cells #[.map (some b)] 72))) (hj : Rs[j]? = some (mapR exB b (isIn L))) (hl : Rs[l]? = some (boxR hx (.cells #[.pointer ho] 29))) (n : Int) (hn : okI n) (hv : (getL H.objs n).isSome = true) :
    Calls Try.prog 47 #[.int .i64 n, .pointer (some ⟨bx, 0, none⟩), .pointer (some ⟨hx, 0, none⟩)] W fun e W' => e = .returned (.bool (decide (n ∉ L) && decide (0 < cnt (allVals H.objs) n))) ∧ Sep w Rs W' := by
  have KK : Hid (∀ W, Sep w Rs W → W.cell? ⟨bx, 0, none⟩ = some (.map (some b)) ∧ W.cell? ⟨hx, 0, none⟩ = some (.pointer ho) ∧ (Instr.lookup 72 (.map (some b)) (.int .i64 n) false).run Try.prog W = .ok (.bool (decide (n ∈ L))) W) := Lib.hid fun W S => by
    refine ⟨cellAt (S.box i hi) 0 (v := .map (some b)) rfl, cellAt (S.box l hl) 0 (v := .pointer ho) rfl, ?_⟩
    refine (S.mapGet j hj Try.underlying72 (fun W => Try.zeroValue4 W) n hn).trans ?_
    unfold isIn
    by_cases h : n ∈ L
    · rw [if_pos h]; simp [exB, h]
    · rw [if_neg h]; simp [h]
  have K1 : Hid (∀ W, Sep w Rs W → Calls Try.prog 48 #[.int .i64 n] W fun e w' => e = .returned (.agg #[.int .i64 4, .int .i64 n, .string ⟨#[]⟩]) ∧ Sep w Rs w') := Lib.hid fun W S => (cref_ok W n).mono fun e w' ⟨h1, h2⟩ => ⟨h1, S.later h2⟩
  have K2 : Hid (∀ W, Sep w Rs W → Calls Try.prog 25 #[.pointer ho, .agg #[.int .i64 4, .int .i64 n, .string ⟨#[]⟩]] W fun e w' => e = .returned (.int .i64 (cnt (allVals H.objs) n)) ∧ Sep w Rs w') := Lib.hid fun W S => S.rCount hh G hN n hn hv
  replace S := Lib.hid S
  generalize cnt (allVals H.objs) n = c at *
  clear hh G hN hi hj hl hv
  by_cases hm : n ∈ L
  · have hd : decide (n ∈ L) = true := by simpa using hm
    have hd2 : (decide (n ∉ L) && decide (0 < c)) = false := by simp [hm]
    rw [hd] at KK
    rw [hd2]
    clear hm hd hd2
    have hg := fun q => (KK.out _ (S.out.drewN q)).2.2
    obtain ⟨c0, c1, -⟩ := KK.out _ S.out
    go_enter Try.func47, Try.ntmps47
    go_upto_region 1 with fail
    go_quiet (fail)
    go_wp2
    go_ret
    exact ⟨rfl, by first | exact S.out.drew | exact S.out.drewN _⟩
  · have hd : decide (n ∈ L) = false := by simpa using hm
    have hd2 : (decide (n ∉ L) && decide (0 < c)) = decide (0 < c) := by simp [hm]
    rw [hd] at KK
    rw [hd2]
    clear hm hd hd2
    have hg1 := (KK.out _ S.out.drew).2.2
    obtain ⟨c0, c1, hg⟩ := KK.out _ S.out
    go_enter Try.func47, Try.ntmps47
    go_upto_region 1 with fail
    go_cut [4] (fun s wx => s = .bool (decide (0 < c)) ∧ Sep w Rs wx)
    case first =>
      have T0 := S.out
      clear S
      go_region_held3 (fun W => W.cell? ⟨bx, 0, none⟩ = some (.map (some b)) ∧ W.cell? ⟨hx, 0, none⟩ = some (.pointer ho) ∧ (Instr.lookup 72 (.map (some b)) (.int .i64 n) false).run Try.prog W = .ok (.bool false) W) (first | exact KK.out _ (by assumption) | exact KK.out _ (Sep.drew (by assumption))) (first | (go_at_call 48; refine (K1.out _ (by first | assumption | exact Sep.drew (by assumption))).mono ?_; rintro e w2 ⟨rfl, S2⟩) | (go_at_call 25; refine (K2.out _ (by first | assumption | exact Sep.drew (by assumption))).mono ?_; rintro e w2 ⟨rfl, S2⟩))
      all_goals (go_wp2_with fail; go_meet; exact ⟨rfl, by assumption⟩)
    case rest =>
      obtain ⟨rfl, S6⟩ := hcut
      replace S6 := Lib.hid S6
      clear K1 K2 KK S c0 c1 hg hg1
      go_wp2
      go_ret
      exact ⟨rfl, S6.out⟩
theorem Sep.join {w W W' : World} {Rs Qs : List Res} (S : Sep w Rs W) (T : Sep W Qs W') : Sep w (Qs ++ Rs) W' := by
  obtain ⟨hb, G, g1, g2, g3⟩ := T
  exact S.more hb g1 g2 g3
/-- What is held, but not reached, rising. -/
noncomputable def HeapM.garbageM (H : HeapM) (E : List V) : List Int := by
  classical exact (H.objs.map (·.1)).filter fun n => decide (¬ H.R E n) && decide (0 < cnt (allVals H.objs) n)
theorem HeapM.garbageM_of {H : HeapM} {E : List V} {L : List Int} (hL : ∀ n, n ∈ L ↔ H.R E n) : (H.objs.map (·.1)).filter (fun n => decide (n ∉ L) && decide (0 < cnt (allVals H.objs) n)) = H.garbageM E := by
  unfold HeapM.garbageM
  refine List.filter_congr fun n _ => ?_
  rw [Bool.eq_iff_iff]; simp [hL]
set_option maxRecDepth 100000 in
set_option maxHeartbeats 800000 in
theorem garbage_is (w : World) (ho : Option Addr) {H : HeapM} {N : Nat} (hh : HAns w ho H) (G : H.Good N) (hN : N ≤ 4000000) (hk : H.Kinds) (sv : Value) (E : List V) (hs : SeesV w sv E) (hE : E.length ≤ 4000000) :
    Calls Try.prog 17 #[.pointer ho, sv] w fun e W => ∃ v, e = .returned v ∧ Sep w [numsR v (H.garbageM E)] W := by
  have S0 := (Sep.start (Below.refl w.heap.size w)).alloc (.cells #[.pointer ho] 29)
  have M := Lib.hid (marks_ok _ ho (hh.kept S0.below) G hN hk sv E (hs.keep fun p v hp => cellBelow hp S0.below) hE)
  have HG := Lib.hid (And.intro hh (And.intro G hN))
  obtain ⟨a, ac, rfl, a1, a2, a3⟩ := hs
  have b0 := cellAt (S0.box 0 rfl) 0 (v := .pointer ho) rfl
  replace S0 := Lib.hid S0
  clear a1 a2 a3 hh G hN hk hE
  go_enter Try.func17, Try.ntmps17
  go_wp2_with fail
  refine M.out.mono ?_
  rintro e w1 ⟨b, L, rfl, S1, hL⟩
  have S2 := (S0.out.join S1).alloc (.cells #[.map (some b)] 72)
  have b1 := cellAt (S2.box 2 rfl) 0 (v := .pointer ho) rfl
  have C := Lib.hid (some_g S2 ho HG.out.1 HG.out.2.1 HG.out.2.2 w1.heap.size w.heap.size (fun n => decide (n ∉ L) && decide (0 < cnt (allVals H.objs) n)) (fun Qs W' n hn hv S => by
    have := garbage1_ok S Qs.length (Qs.length + 1) (Qs.length + 2) w1.heap.size w.heap.size b L ho HG.out.1 HG.out.2.1 HG.out.2.2 (by simp) (by simp) (by simp) n hn hv
    exact this))
  have HL := Lib.hid hL
  clear S1 S2 hL M b0
  go_wp2_with fail
  refine C.out.mono ?_
  rintro e w2 ⟨v, rfl, S3⟩
  rw [HeapM.garbageM_of HL.out] at S3
  replace S3 := Lib.hid (S3.sub (.cons_cons _ (.cons _ (.cons _ (.cons _ .slnil)))))
  clear C
  go_wp2
  go_ret
  exact ⟨_, rfl, S3.out⟩
end Go.Proofs.Ytjinabglachglaa
/- What is freed, plainly. -/
namespace Go.Proofs.Ytjinabglachglaa
set_option linter.unusedSimpArgs false
open Go.RowKit
set_option linter.unusedVariables false
theorem drop_objs (H : HeapM) (n : Int) : (H.drop n).objs = H.objs.filter fun p => !decide (p.1 = n) := rfl
theorem freeAll_objs (H : HeapM) (ns : List Int) : (H.freeAll ns).objs = H.objs.filter fun p => !decide (p.1 ∈ ns) := by
  induction ns generalizing H with
  | nil => show H.objs = _; rw [List.filter_eq_self.2]; intro p _; simp
  | cons n r ih =>
    show ((H.drop n).freeAll r).objs = _
    rw [ih, drop_objs, List.filter_filter]
    refine List.filter_congr fun p _ => ?_
    by_cases h1 : p.1 = n <;> by_cases h2 : p.1 ∈ r <;> simp [h1, h2]
theorem drop_len {l : List (Int × ObjM)} (hn : (l.map (·.1)).Nodup) (n : Int) : (getL l n).isSome.toNat + (l.filter fun p => !decide (p.1 = n)).length = l.length := by
  cases g : getL l n with
  | none => have := delL_none g; unfold delL at this; rw [this]; simp
  | some o => have := delL_length hn g; unfold delL at this; simp only [Option.isSome_some, Bool.toNat_true]; omega
theorem freed_len {H : HeapM} (hn : (H.objs.map (·.1)).Nodup) (ns : List Int) : H.freed ns + (H.freeAll ns).objs.length = H.objs.length := by
  induction ns generalizing H with
  | nil => simp [HeapM.freed, HeapM.freeAll]
  | cons n r ih =>
    have h1 := drop_len hn n
    have h2 : ((H.drop n).objs.map (·.1)).Nodup := (List.filter_sublist.map _).nodup hn
    have h3 := ih h2
    show (getL H.objs n).isSome.toNat + (H.drop n).freed r + ((H.drop n).freeAll r).objs.length = _
    rw [← drop_objs] at h1
    omega
theorem freeAll_keys (H : HeapM) (ns : List Int) : (H.freeAll ns).objs.map (·.1) = (H.objs.map (·.1)).filter fun n => !decide (n ∈ ns) := by
  rw [freeAll_objs, List.filter_map]; rfl
end Go.Proofs.Ytjinabglachglaa
/- collect: Collect. -/
namespace Go.Proofs.Ytjinabglachglaa
set_option linter.unusedSimpArgs false
open Go.RowKit
set_option linter.unusedVariables false
theorem HeapM.Kinds.sweep' {H : HeapM} (h : H.Kinds) (E : List V) : (H.sweep E).Kinds := h.filter _ fun p hp => (List.mem_filter.1 hp).1
theorem HeapM.Kinds.freeAll {H : HeapM} (h : H.Kinds) (ns : List Int) : (H.freeAll ns).Kinds := h.filter _ fun p hp => by rw [freeAll_objs] at hp; exact (List.mem_filter.1 hp).1
/-- What a collection leaves. -/
noncomputable def HeapM.collect (H : HeapM) (E : List V) : HeapM := (H.sweep E).freeAll ((H.sweep E).garbageM E)
theorem HeapM.garbageM_nums {H : HeapM} {N : Nat} (G : H.Good N) (E : List V) : H.Nums (H.garbageM E) := by
  unfold HeapM.garbageM
  exact ⟨(HeapM.keys_nums G).1.filter _, fun n hn => (HeapM.keys_nums G).2 n ((List.mem_filter.1 hn).1)⟩
set_option maxRecDepth 100000 in
set_option maxHeartbeats 1600000 in
theorem collect_ok {w W : World} {Rs : List Res} (S : Sep w Rs W) (i : Nat) (h : Nat) {H : HeapM} (hi : Rs[i]? = some (heapR h H)) {N : Nat} (G : H.Good N) (hN : N ≤ 4000000) (hk : H.Kinds) (a : Option Addr) (c : Nat) (E : List V) (hE : E.length ≤ 4000000)
    (hs : ∀ (H' : HeapM) (W' : World), Sep w (Rs.set i (heapR h H')) W' → SeesV W' (.slice a E.length c) E) (ha : ∀ W', ArgS w W' Rs i (.slice a E.length c)) :
    Calls Try.prog 15 #[.pointer (some ⟨h, 0, none⟩), .slice a E.length c] W fun e W' => e = .returned (.tuple #[.int .i64 ((H.objs.length : Int) - (H.collect E).objs.length), .int .i64 ((H.live 6 : Int) - (H.collect E).live 6)]) ∧ Sep w (Rs.set i (heapR h (H.collect E))) W' := by
  have hil := (List.getElem?_eq_some_iff.1 hi).1
  have L1 := Lib.hid (S.live i hi G hN 6)
  have S2 := Lib.hid (fun W (S : Sep w Rs W) => S.sweep i hi G hN (.slice a E.length c) E (by have := hs H W (by rw [Sep.setSame hi]; exact S); exact this) (ha W) hE)
  have G1 := G.sweep E
  have k1 := hk.sweep' E
  have hi1 : (Rs.set i (heapR h (H.sweep E)))[i]? = some (heapR h (H.sweep E)) := by simp [hil]
  have S3 := Lib.hid (fun W (S : Sep w (Rs.set i (heapR h (H.sweep E))) W) => show Calls Try.prog 17 #[.pointer (some ⟨h, 0, none⟩), .slice a E.length c] W fun e W' => ∃ v, e = .returned v ∧ Sep w (numsR v ((H.sweep E).garbageM E) :: Rs.set i (heapR h (H.sweep E))) W' from by
    obtain ⟨F, h1, _⟩ := S.get i hi1
    exact (garbage_is W _ (HAns.of h1 G1 hN) G1 hN k1 _ E (hs _ W S) hE).mono fun e W' ⟨v, e1, e2⟩ => ⟨v, e1, S.join e2⟩)
  have hn1 := HeapM.garbageM_nums G1 E
  have S4 := Lib.hid (fun W v (S : Sep w (numsR v ((H.sweep E).garbageM E) :: Rs.set i (heapR h (H.sweep E))) W) => S.free (i + 1) (by simpa using hi1) G1 hN v _ (SeesN.of_slIs (S.row 0 rfl)) (ArgS.row 0 (by omega) rfl) (hn1.ok G1 hN))
  have G2 := G1.freeAll ((H.sweep E).garbageM E)
  have hi2 : (Rs.set i (heapR h (H.collect E)))[i]? = some (heapR h (H.collect E)) := by simp [hil]
  have S5 := Lib.hid (fun W (S : Sep w (Rs.set i (heapR h (H.collect E))) W) => S.live i hi2 G2 hN 6)
  have hf := freed_len (H := H.sweep E) G1.ok.nk ((H.sweep E).garbageM E)
  have hl1 := G.len
  have hl2 : H.live 6 ≤ H.objs.length := List.length_filter_le _ _
  have hl3 : (H.collect E).live 6 ≤ (H.collect E).objs.length := List.length_filter_le _ _
  have hcl : (H.collect E).objs = ((H.sweep E).freeAll ((H.sweep E).garbageM E)).objs := rfl
  rw [← hcl] at hf
  have HF := Lib.hid (And.intro hf (And.intro hl1 (And.intro hl2 (And.intro hl3 hN))))
  have HS := Lib.hid S
  clear S hi hk hs ha G1 k1 hi1 hn1 G2 hi2 hf hl1 hl2 hl3 hcl hE hN G
  go_enter Try.func15, Try.ntmps15
  go_wp2_with fail
  refine L1.out.mono ?_
  rintro e w1 ⟨rfl, T1, -⟩
  replace T1 := Lib.hid (S2.out _ T1)
  clear L1
  go_wp2_with fail
  refine T1.out.mono ?_
  rintro e w2 ⟨⟨f, rfl, f1⟩, T2⟩
  have HF1 := Lib.hid f1
  replace T2 := Lib.hid (S3.out _ T2)
  clear T1 f1
  go_wp2_with fail
  refine T2.out.mono ?_
  rintro e w3 ⟨v, rfl, T3⟩
  replace T3 := Lib.hid (S4.out _ _ T3)
  clear T2
  go_wp2_with fail
  refine T3.out.mono ?_
  rintro e w4 ⟨rfl, T4⟩
  rw [List.set_cons_succ, List.set_set] at T4
  replace T4 := T4.tail
  have T5 := Lib.hid (S5.out _ T4)
  have T6 := Lib.hid T4
  clear T3 T4
  have hw1 : wrap64 ((f : Int) + ((H.sweep E).freed ((H.sweep E).garbageM E) : Nat)) = (H.objs.length : Int) - (H.collect E).objs.length := by
    have := HF.out; have := HF1.out
    rw [wrap64_id _ (by omega)]; omega
  have hw2 : wrap64 ((H.live 6 : Int) - (H.collect E).live 6) = (H.live 6 : Int) - (H.collect E).live 6 := by
    have := HF.out; have := HF1.out
    exact wrap64_id _ (by omega)
  have HW := Lib.hid (And.intro hw1 hw2)
  clear hw1 hw2
  go_wp2_with fail
  refine T5.out.mono ?_
  rintro e w5 ⟨rfl, T7, -⟩
  replace T7 := Lib.hid T7
  clear T5 T6
  go_wp2
  exact bodyPost_ret (v := .tuple #[.int .i64 (wrap64 ((f : Int) + ((H.sweep E).freed ((H.sweep E).garbageM E) : Nat))), .int .i64 (wrap64 ((H.live 6 : Int) - (H.collect E).live 6))]) (by simp [results, Try.results15, go_sem]) rfl ⟨by rw [HW.out.1, HW.out.2], T7.out⟩
end Go.Proofs.Ytjinabglachglaa
