/- collect: Garbage. -/
import Derived.Test.YtjinabglachglaaCollD
import Derived.Deep.RegionHeld3
import Derived.Deep.CutRange
namespace Go.Proofs.Ytjinabglachglaa
set_option linter.unusedSimpArgs false
open Go.RowKit
set_option linter.unusedVariables false
set_option maxRecDepth 100000 in
set_option maxHeartbeats 1600000 in
theorem garbage1_ok {w W : World} {Rs : List Res} (S : Sep w Rs W) (i j l : Nat) (bx hx b : Nat) (L : List Int) (ho : Option Addr) {H : HeapM} {N : Nat} (hh : HAns w ho H) (G : H.Good N) (hN : N ≤ 4000000)
    (hi : Rs[i]? = some (boxR bx (.cells #[.map (some b)] 72))) (hj : Rs[j]? = some (mapR exB b (isIn L))) (hl : Rs[l]? = some (boxR hx (.cells #[.pointer ho] 29))) (n : Int) (hn : okI n) (hv : (getL H.objs n).isSome = true) :
    Calls Try.prog 47 #[.int .i64 n, .pointer (some ⟨bx, 0, none⟩), .pointer (some ⟨hx, 0, none⟩)] W fun e W' => e = .returned (.bool (decide (n ∉ L) && decide (0 < cnt (allVals H.objs) n))) ∧ Sep w Rs W' := by
  have KK : Hid (∀ W, Sep w Rs W → W.cell? ⟨bx, 0, none⟩ = some (.map (some b)) ∧ W.cell? ⟨hx, 0, none⟩ = some (.pointer ho) ∧ (Instr.lookup 72 (.map (some b)) (.int .i64 n) false).run Try.prog W = .ok (.bool (decide (n ∈ L))) W) := Lib.hid fun W S => by
    refine ⟨cellAt (S.box i hi) 0 (v := .map (some b)) rfl, cellAt (S.box l hl) 0 (v := .pointer ho) rfl, ?_⟩
    refine (S.mapGet j hj Try.underlying72 (fun W => Try.zeroValue4 W) n hn).trans ?_
    unfold isIn
    by_cases h : n ∈ L
    · rw [if_pos h]; simp [exB, h]
    · rw [if_neg h]; simp [h]
  have K1 : Hid (∀ W, Sep w Rs W → Calls Try.prog 48 #[.int .i64 n] W fun e w' => e = .returned (.agg #[.int .i64 4, .int .i64 n, .string ⟨#[]⟩]) ∧ Sep w Rs w') := Lib.hid fun W S => (cref_ok W n).mono fun e w' ⟨h1, h2⟩ => ⟨h1, S.later h2⟩
  have K2 : Hid (∀ W, Sep w Rs W → Calls Try.prog 25 #[.pointer ho, .agg #[.int .i64 4, .int .i64 n, .string ⟨#[]⟩]] W fun e w' => e = .returned (.int .i64 (cnt (allVals H.objs) n)) ∧ Sep w Rs w') := Lib.hid fun W S => S.rCount hh G hN n hn hv
  replace S := Lib.hid S
  generalize cnt (allVals H.objs) n = c at *
  clear hh G hN hi hj hl hv
  by_cases hm : n ∈ L
  · have hd : decide (n ∈ L) = true := by simpa using hm
    have hd2 : (decide (n ∉ L) && decide (0 < c)) = false := by simp [hm]
    rw [hd] at KK
    rw [hd2]
    clear hm hd hd2
    have hg := fun q => (KK.out _ (S.out.drewN q)).2.2
    obtain ⟨c0, c1, -⟩ := KK.out _ S.out
    go_enter Try.func47, Try.ntmps47
    go_upto_region 1 with fail
    go_quiet (fail)
    go_wp2
    go_ret
    exact ⟨rfl, by first | exact S.out.drew | exact S.out.drewN _⟩
  · have hd : decide (n ∈ L) = false := by simpa using hm
    have hd2 : (decide (n ∉ L) && decide (0 < c)) = decide (0 < c) := by simp [hm]
    rw [hd] at KK
    rw [hd2]
    clear hm hd hd2
    have hg1 := (KK.out _ S.out.drew).2.2
    obtain ⟨c0, c1, hg⟩ := KK.out _ S.out
    go_enter Try.func47, Try.ntmps47
    go_upto_region 1 with fail
    go_cut [4] (fun s wx => s = .bool (decide (0 < c)) ∧ Sep w Rs wx)
    case first =>
      have T0 := S.out
      clear S
      go_region_held3 (fun W => W.cell? ⟨bx, 0, none⟩ = some (.map (some b)) ∧ W.cell? ⟨hx, 0, none⟩ = some (.pointer ho) ∧ (Instr.lookup 72 (.map (some b)) (.int .i64 n) false).run Try.prog W = .ok (.bool false) W) (first | exact KK.out _ (by assumption) | exact KK.out _ (Sep.drew (by assumption))) (first | (go_at_call 48; refine (K1.out _ (by first | assumption | exact Sep.drew (by assumption))).mono ?_; rintro e w2 ⟨rfl, S2⟩) | (go_at_call 25; refine (K2.out _ (by first | assumption | exact Sep.drew (by assumption))).mono ?_; rintro e w2 ⟨rfl, S2⟩))
      all_goals (go_wp2_with fail; go_meet; exact ⟨rfl, by assumption⟩)
    case rest =>
      obtain ⟨rfl, S6⟩ := hcut
      replace S6 := Lib.hid S6
      clear K1 K2 KK S c0 c1 hg hg1
      go_wp2
      go_ret
      exact ⟨rfl, S6.out⟩
theorem Sep.join {w W W' : World} {Rs Qs : List Res} (S : Sep w Rs W) (T : Sep W Qs W') : Sep w (Qs ++ Rs) W' := by
  obtain ⟨hb, G, g1, g2, g3⟩ := T
  exact S.more hb g1 g2 g3
/-- What is held, but not reached, rising. -/
noncomputable def HeapM.garbageM (H : HeapM) (E : List V) : List Int := by
  classical exact (H.objs.map (·.1)).filter fun n => decide (¬ H.R E n) && decide (0 < cnt (allVals H.objs) n)
theorem HeapM.garbageM_of {H : HeapM} {E : List V} {L : List Int} (hL : ∀ n, n ∈ L ↔ H.R E n) : (H.objs.map (·.1)).filter (fun n => decide (n ∉ L) && decide (0 < cnt (allVals H.objs) n)) = H.garbageM E := by
  unfold HeapM.garbageM
  refine List.filter_congr fun n _ => ?_
  rw [Bool.eq_iff_iff]; simp [hL]
set_option maxRecDepth 100000 in
set_option maxHeartbeats 800000 in
theorem garbage_is (w : World) (ho : Option Addr) {H : HeapM} {N : Nat} (hh : HAns w ho H) (G : H.Good N) (hN : N ≤ 4000000) (hk : H.Kinds) (sv : Value) (E : List V) (hs : SeesV w sv E) (hE : E.length ≤ 4000000) :
    Calls Try.prog 17 #[.pointer ho, sv] w fun e W => ∃ v, e = .returned v ∧ Sep w [numsR v (H.garbageM E)] W := by
  have S0 := (Sep.start (Below.refl w.heap.size w)).alloc (.cells #[.pointer ho] 29)
  have M := Lib.hid (marks_ok _ ho (hh.kept S0.below) G hN hk sv E (hs.keep fun p v hp => cellBelow hp S0.below) hE)
  have HG := Lib.hid (And.intro hh (And.intro G hN))
  obtain ⟨a, ac, rfl, a1, a2, a3⟩ := hs
  have b0 := cellAt (S0.box 0 rfl) 0 (v := .pointer ho) rfl
  replace S0 := Lib.hid S0
  clear a1 a2 a3 hh G hN hk hE
  go_enter Try.func17, Try.ntmps17
  go_wp2_with fail
  refine M.out.mono ?_
  rintro e w1 ⟨b, L, rfl, S1, hL⟩
  have S2 := (S0.out.join S1).alloc (.cells #[.map (some b)] 72)
  have b1 := cellAt (S2.box 2 rfl) 0 (v := .pointer ho) rfl
  have C := Lib.hid (some_g S2 ho HG.out.1 HG.out.2.1 HG.out.2.2 w1.heap.size w.heap.size (fun n => decide (n ∉ L) && decide (0 < cnt (allVals H.objs) n)) (fun Qs W' n hn hv S => by
    have := garbage1_ok S Qs.length (Qs.length + 1) (Qs.length + 2) w1.heap.size w.heap.size b L ho HG.out.1 HG.out.2.1 HG.out.2.2 (by simp) (by simp) (by simp) n hn hv
    exact this))
  have HL := Lib.hid hL
  clear S1 S2 hL M b0
  go_wp2_with fail
  refine C.out.mono ?_
  rintro e w2 ⟨v, rfl, S3⟩
  rw [HeapM.garbageM_of HL.out] at S3
  replace S3 := Lib.hid (S3.sub (.cons_cons _ (.cons _ (.cons _ (.cons _ .slnil)))))
  clear C
  go_wp2
  go_ret
  exact ⟨_, rfl, S3.out⟩
end Go.Proofs.Ytjinabglachglaa
