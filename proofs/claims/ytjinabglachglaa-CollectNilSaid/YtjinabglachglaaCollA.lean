/- collect: counts. -/
import Derived.Test.YtjinabglachglaaCore
import Derived.Test.YtjinabglachglaaMapR
import Derived.Deep.RegionHeld3
import Derived.IntWalk
namespace Go.Proofs.Ytjinabglachglaa
set_option linter.unusedSimpArgs false
open Go.RowKit
set_option linter.unusedVariables false
/-- What this pointer points to answers as H, from w on. -/
structure HAns (w : World) (ho : Option Addr) (H : HeapM) : Prop where
  all : ∀ W, Below w.heap.size w W → Calls Try.prog 23 #[.pointer ho] W (RefsPost (H.objs.map (·.1)) W)
  kind : ∀ W, Below w.heap.size w W → ∀ v : V, Calls Try.prog 19 #[.pointer ho, v.val] W fun e W' => e = .returned (.int .i64 (H.kind v)) ∧ Below W.heap.size W W'
  count : ∀ W, Below w.heap.size w W → ∀ (n : Int) (hn : okI n), (getL H.objs n).isSome = true → Calls Try.prog 25 #[.pointer ho, (V.ref n hn).val] W fun e W' => e = .returned (.int .i64 (cnt (allVals H.objs) n)) ∧ Below W.heap.size W W'
  refs : ∀ W, Below w.heap.size w W → ∀ (n : Int) (hn : okI n), Calls Try.prog 22 #[.pointer ho, (V.ref n hn).val] W (RefsPost (H.refsOf n) W)
theorem HAns.kept {w w1 : World} {ho : Option Addr} {H : HeapM} (A : HAns w ho H) (hb : Below w.heap.size w w1) : HAns w1 ho H :=
  ⟨fun W h => A.all W (Below.next hb h hb.size), fun W h => A.kind W (Below.next hb h hb.size), fun W h => A.count W (Below.next hb h hb.size), fun W h => A.refs W (Below.next hb h hb.size)⟩
theorem HAns.of {w : World} {h : Nat} {H : HeapM} {F : List Nat} {N : Nat} (hh : HeapIs w h H (fun _ => 0) F) (G : H.Good N) (hN : N ≤ 4000000) : HAns w (some ⟨h, 0, none⟩) H := by
  have hk : ∀ W, Below w.heap.size w W → HeapIs W h H (fun _ => 0) F := fun W hb => hh.of_block fun b hb' => hb.block b (hh.lt b hb')
  refine ⟨fun W hb => ?_, fun W hb v => heap_kind W h v (hk W hb), fun W hb n hn hl => ?_, fun W hb n hn => ?_⟩
  · have := G.len
    exact heap_all W h (hk W hb) (by omega) G.ok.asc
  · refine (heap_count W h (V.ref n hn) (hk W hb)).mono fun e W' ⟨e1, e2⟩ => ⟨?_, e2⟩
    rw [e1]
    have := G.cnt n
    have h2 : (H.of (V.ref n hn)).isSome = true := by unfold HeapM.of; rw [if_pos (show (V.ref n hn).kind = 4 from rfl)]; exact hl
    rw [if_pos h2, show (V.ref n hn).n = n from rfl, wrap64_id _ (by omega)]
    simp
  · have := G.items (V.ref n hn)
    rw [← HeapM.refNs_ref H n hn]
    exact heap_refs W h (V.ref n hn) (hk W hb) (by omega)
theorem cref_ok (w : World) (n : Int) :
    Calls Try.prog 48 #[.int .i64 n] w fun e w' => e = .returned (.agg #[.int .i64 4, .int .i64 n, .string ⟨#[]⟩]) ∧ Below w.heap.size w w' := by
  go_enter Try.func48, Try.ntmps48
  go_wp2
  exact bodyPost_ret (v := .agg #[.int .i64 4, .int .i64 n, .string ⟨#[]⟩]) (by simp [results, Try.results48, go_sem]) rfl ⟨rfl, by (repeat (first | exact Below.refl _ _ | assumption | refine Below.drewN ?_ _ | refine Below.drew ?_ | refine Below.alloc ?_ (by (try simp only [World.size_alloc, size_drewN, size_setCell]); omega) _ | refine Below.setCell ?_ (by (try simp only [World.size_alloc, size_drewN, size_setCell]); omega) _))⟩
section
variable {w W : World} {ho : Option Addr} {H : HeapM} {Rs : List Res} {N : Nat}
theorem Sep.rAll (S : Sep w Rs W) (hh : HAns w ho H) (G : H.Good N) (hN : N ≤ 4000000) : Calls Try.prog 23 #[.pointer ho] W fun e W' => ∃ sv, e = .returned sv ∧ Sep w (numsR sv (H.objs.map (·.1)) :: Rs) W' :=
  (hh.all W S.below).mono fun e W' ⟨sv, e1, e2, e3, e4⟩ => ⟨sv, e1, S.addRow e4 e2 e3⟩
theorem Sep.rKind (S : Sep w Rs W) (hh : HAns w ho H) (v : V) : Calls Try.prog 19 #[.pointer ho, v.val] W fun e W' => e = .returned (.int .i64 (H.kind v)) ∧ Sep w Rs W' :=
  (hh.kind W S.below v).mono fun e W' ⟨e1, e2⟩ => ⟨e1, S.later e2⟩
theorem Sep.rCount (S : Sep w Rs W) (hh : HAns w ho H) (G : H.Good N) (hN : N ≤ 4000000) (n : Int) (hn : okI n) (hl : (getL H.objs n).isSome = true) : Calls Try.prog 25 #[.pointer ho, (V.ref n hn).val] W fun e W' => e = .returned (.int .i64 (cnt (allVals H.objs) n)) ∧ Sep w Rs W' :=
  (hh.count W S.below n hn hl).mono fun e W' ⟨e1, e2⟩ => ⟨e1, S.later e2⟩
theorem Sep.rRefs (S : Sep w Rs W) (hh : HAns w ho H) (G : H.Good N) (hN : N ≤ 4000000) (n : Int) (hn : okI n) : Calls Try.prog 22 #[.pointer ho, (V.ref n hn).val] W fun e W' => ∃ sv, e = .returned sv ∧ Sep w (numsR sv (H.refsOf n) :: Rs) W' :=
  (hh.refs W S.below n hn).mono fun e W' ⟨sv, e1, e2, e3, e4⟩ => ⟨sv, e1, S.addRow e4 e2 e3⟩
end
/-- How often each object is held, and was handed in. -/
def HeapM.leftM (H : HeapM) (ks : List Int) (E : List V) : Int → Option Int := fun n => if n ∈ ks then some (cnt (allVals H.objs) n + cnt E n) else none
theorem HeapM.leftM_nil (H : HeapM) (E : List V) : H.leftM [] E = fun _ => none := by funext n; simp [HeapM.leftM]
theorem HeapM.leftM_key (H : HeapM) (ks : List Int) (n : Int) : (fun m => if m = n then some (cnt (allVals H.objs) n) else H.leftM ks [] m) = H.leftM (ks ++ [n]) [] := by
  funext m
  unfold HeapM.leftM
  by_cases e : m = n
  · subst e; simp [cnt_nil]
  · simp [e]
theorem HeapM.leftM_in (H : HeapM) {ks : List Int} (E : List V) {x : V} (hk : x.kind = 4) (hm : x.n ∈ ks) : (fun m => if m = x.n then some (cnt (allVals H.objs) x.n + cnt E x.n + 1) else H.leftM ks E m) = H.leftM ks (E ++ [x]) := by
  funext m
  unfold HeapM.leftM
  rw [cnt_append, cnt_cons, cnt_nil]
  by_cases e : m = x.n
  · subst e; simp [hm, hk]; omega
  · simp [e, Ne.symm e]
theorem HeapM.leftM_out (H : HeapM) {ks : List Int} (E : List V) {x : V} (hk : ¬ (x.kind = 4 ∧ x.n ∈ ks)) : H.leftM ks E = H.leftM ks (E ++ [x]) := by
  funext m
  unfold HeapM.leftM
  rw [cnt_append, cnt_cons, cnt_nil]
  by_cases e : m ∈ ks
  · rw [if_pos e, if_pos e, if_neg (fun h : x.kind = 4 ∧ x.n = m => hk ⟨h.1, h.2 ▸ e⟩)]; simp
  · rw [if_neg e, if_neg e]
theorem cnt_take_le (E : List V) (k : Nat) (n : Int) : 0 ≤ cnt (E.take k) n ∧ cnt (E.take k) n ≤ E.length := by
  have h1 := cnt_le (E.take k) n
  have h2 := cnt_nonneg (E.take k) n
  simp at h1
  omega
set_option maxRecDepth 100000 in
set_option maxHeartbeats 1600000 in
theorem counts_ok (w : World) (ho : Option Addr) {H : HeapM} {N : Nat} (hh : HAns w ho H) (G : H.Good N) (hN : N ≤ 4000000) (hk : H.Kinds) (sv : Value) (E : List V) (hs : SeesV w sv E) (hE : E.length ≤ 4000000) :
    Calls Try.prog 78 #[.pointer ho, sv] w fun e W => ∃ b, e = .returned (.map (some b)) ∧ Sep w [mapR exI b (H.leftM (H.objs.map (·.1)) E)] W := by
  have HS := Lib.hid hs
  obtain ⟨a, ac, rfl, a1, a2, a3⟩ := hs
  have hE' : (E.length : Int) ≤ 4000000 := by omega
  have hmk : ∀ w1 : World, (Instr.makeMap 68 none).run Try.prog w1 = .ok (.map (some w1.heap.size)) (w1.alloc (.map #[] 0)) := fun w1 => run_makeMap _ w1
  have S0 := Lib.hid ((Sep.start (Below.refl w.heap.size w)).mapNew exI)
  have HG := Lib.hid (And.intro hh (And.intro G (And.intro hN (And.intro hk hE))))
  have hz : ∀ W, (zeroValue 3).run Try.prog W = .ok (.int .i64 0) W := fun W => Try.zeroValue3 W
  have HZ := Lib.hid hz
  clear a1 a2 a3 hh G hN hk hE hz
  go_enter Try.func78, Try.ntmps78
  go_wp2_with fail
  have A1 := Lib.hid (S0.out.rAll HG.out.1 HG.out.2.1 HG.out.2.2.1)
  refine A1.out.mono ?_
  rintro e w1 ⟨rv, rfl, S1⟩
  obtain ⟨ra, rc, rfl⟩ := (S1.row 0 rfl).form
  have hkl : ((H.objs.map (·.1)).length : Int) ≤ 4000000 := by have := HG.out.2.1.len; have := HG.out.2.2.1; simp; omega
  have hnum := HeapM.keys_nums HG.out.2.1
  obtain ⟨ks, hks⟩ : ∃ ks, H.objs.map (·.1) = ks := ⟨_, rfl⟩
  rw [hks] at S1 hkl hnum ⊢
  replace S1 := Lib.hid S1
  have HNUM := Lib.hid hnum
  have HKS := Lib.hid hks
  clear A1 S0 hks hnum
  go_wp2
  go_loopw [14] (fun i wr => ∃ k : Nat, k ≤ ks.length ∧ i = .int .i64 k ∧ Sep w [numsR (.slice ra ks.length rc) ks, mapR exI w.heap.size (H.leftM (ks.take k) [])] wr) (fun i _ => ks.length - (intOf i).toNat)
  case atStart => exact ⟨0, by omega, rfl, by rw [List.take_zero, HeapM.leftM_nil]; exact S1.out⟩
  case round =>
    clear S1
    obtain ⟨k, hk, rfl, S1⟩ := hrel
    by_cases hlt : k < ks.length
    · obtain ⟨n, hn⟩ : ∃ n, ks[k]? = some n := ⟨ks[k], by simp [hlt]⟩
      obtain ⟨g, rfl⟩ := S1.numAddr 0 rfl hlt
      have c0 := S1.numCell 0 rfl hn
      have hkn := HNUM.out.ok HG.out.2.1 HG.out.2.2.1 n (List.mem_of_getElem? hn)
      have hil : (k : Int) < ks.length := by omega
      have hnext := HeapM.leftM_key H (ks.take k) n
      rw [show ks.take k ++ [n] = ks.take (k + 1) by rw [List.take_add_one, hn]; rfl] at hnext
      have HX := Lib.hid (And.intro hnext (And.intro hlt (HNUM.out.2 n (List.mem_of_getElem? hn))))
      replace S1 := Lib.hid S1
      clear hnext hn hlt
      go_wp2_with fail
      refine (cref_ok _ n).mono ?_
      rintro e w2 ⟨rfl, hb1⟩
      have C := (S1.out.later hb1).rCount HG.out.1 HG.out.2.1 HG.out.2.2.1 n hkn HX.out.2.2
      replace C := Lib.hid C
      simp only [V.val, V.ref] at C
      clear hb1 c0 S1
      go_wp2_with fail
      refine C.out.mono ?_
      rintro e w3 ⟨rfl, S2⟩
      obtain ⟨w4, hrun, S3⟩ := S2.mapSet 1 rfl Try.underlying68 n hkn (cnt (allVals H.objs) n)
      simp only [exI] at hrun
      replace S3 := Lib.hid S3
      clear S2 C
      go_wp2
      refine ⟨⟨k + 1, by have := HX.out.2.1; omega, by go_num, ?_⟩, by have := HX.out.2.1; simp [intOf]; omega⟩
      rw [← HX.out.1]; exact S3.out
    · obtain rfl : k = ks.length := by omega
      rw [List.take_length] at S1
      replace S1 := Lib.hid S1.tail
      clear hlt hk
      go_wp2
      go_loopw [27] (fun i wr => ∃ k : Nat, k ≤ E.length ∧ i = .int .i64 k ∧ Sep w [mapR exI w.heap.size (H.leftM ks (E.take k))] wr) (fun i _ => E.length - (intOf i).toNat)
      case atStart => exact ⟨0, by omega, rfl, S1.out⟩
      case round =>
        clear S1
        obtain ⟨k, hk, rfl, S1⟩ := hrel
        by_cases hlt : k < E.length
        · obtain ⟨x, hx⟩ : ∃ x, E[k]? = some x := ⟨E[k], by simp [hlt]⟩
          obtain ⟨g, o, rfl, hc⟩ : ∃ g o, a = some ⟨g, o, none⟩ ∧ ∀ i v, E[i]? = some v → w.cell? ⟨g, o + i * 3, none⟩ = some (.int .i64 v.kind) ∧ w.cell? ⟨g, o + i * 3 + 1, none⟩ = some (.int .i64 v.n) ∧ w.cell? ⟨g, o + i * 3 + 2, none⟩ = some (.string v.s) := by
            obtain ⟨a', c', he, _, _, h3⟩ := HS.out
            cases he
            rcases h3 with h | h
            · subst h; simp at hlt
            · exact h
          obtain ⟨c0, c1, c2⟩ := hc k x hx
          replace c0 := cellBelow c0 S1.below
          replace c1 := cellBelow c1 S1.below
          replace c2 := cellBelow c2 S1.below
          have hil : (k : Int) < E.length := by omega
          have hE2 : E.take k ++ [x] = E.take (k + 1) := by rw [List.take_add_one, hx]; rfl
          obtain ⟨kd, hkd⟩ : ∃ kd, H.kind x = kd := ⟨_, rfl⟩
          have S2 := S1.alloc (.cells #[.int .i64 x.kind, .int .i64 x.n, .string x.s] 41)
          have K := S2.rKind HG.out.1 x
          rw [hkd] at K
          replace K := Lib.hid K
          have hz := HG.out.2.2.2.1.zero x
          rw [hkd] at hz
          have hct := cnt_take_le E k x.n
          have hca := HG.out.2.1.cnt x.n
          have hw64 : wrap64 (cnt (allVals H.objs) x.n + cnt (E.take k) x.n + 1) = cnt (allVals H.objs) x.n + cnt (E.take k) x.n + 1 := by
            have := HG.out.2.2.1; have := HG.out.2.2.2.2
            exact wrap64_id _ (by omega)
          have HX := Lib.hid (And.intro hE2 (And.intro hlt hw64))
          clear hx hc S1 S2 hE2 hlt hct hca hw64
          by_cases hs : (H.of x).isSome = true
          · have hkz : (kd != 0) = true := by
              rw [bne_iff_ne]; intro e; have := hz.1 e; rw [hs] at this; cases this
            have hin : x.kind = 4 ∧ x.n ∈ ks := by
              obtain ⟨o', ho'⟩ := Option.isSome_iff_exists.1 hs
              have := HeapM.of_some ho'
              refine ⟨this.1, ?_⟩
              rw [← HKS.out]
              exact List.mem_map.2 ⟨_, getL_mem this.2, rfl⟩
            have HIN := Lib.hid hin
            clear hs hz hkd hin
            simp only [V.val] at K
            go_wp2_with fail
            refine K.out.mono ?_
            rintro e w2 ⟨rfl, S3⟩
            have b0 := S3.box 0 rfl
            have e1 := cellAt b0 1 (v := .int .i64 x.n) rfl
            have hget := S3.mapGet 1 rfl Try.underlying68 HZ.out x.n x.hn
            have hf : H.leftM ks (E.take k) x.n = some (cnt (allVals H.objs) x.n + cnt (E.take k) x.n) := by unfold HeapM.leftM; rw [if_pos HIN.out.2]
            rw [hf] at hget
            simp only [exI] at hget
            obtain ⟨w4, hrun, S4⟩ := S3.mapSet 1 rfl Try.underlying68 x.n x.hn (wrap64 (cnt (allVals H.objs) x.n + cnt (E.take k) x.n + 1))
            simp only [exI] at hrun
            rw [HX.out.2.2, HeapM.leftM_in H (E.take k) HIN.out.1 HIN.out.2, HX.out.1] at S4
            replace S4 := Lib.hid S4
            clear S3 K hf b0
            generalize cnt (allVals H.objs) x.n + cnt (E.take k) x.n = q at *
            go_wp2
            refine ⟨⟨k + 1, by have := HX.out.2.1; omega, by go_num, ?_⟩, by have := HX.out.2.1; simp [intOf]; omega⟩
            exact S4.out.tail
          · have hkz : (kd != 0) = false := by
              have := hz.2 (by simpa using hs); simp [this]
            have hin : ¬ (x.kind = 4 ∧ x.n ∈ ks) := fun ⟨h1, h2⟩ => hs (by
              unfold HeapM.of; rw [if_pos h1]; exact HNUM.out.2 _ h2)
            have HIN := Lib.hid hin
            clear hs hz hkd hin
            simp only [V.val] at K
            go_wp2_with fail
            refine K.out.mono ?_
            rintro e w2 ⟨rfl, S3⟩
            replace S3 := Lib.hid S3
            clear K
            go_wp2
            refine ⟨⟨k + 1, by have := HX.out.2.1; omega, by go_num, ?_⟩, by have := HX.out.2.1; simp [intOf]; omega⟩
            rw [← HX.out.1, ← HeapM.leftM_out H (E.take k) HIN.out]; exact S3.out.tail
        · obtain rfl : k = E.length := by omega
          rw [List.take_length] at S1
          replace S1 := Lib.hid S1
          clear hlt hk
          go_wp2
          go_ret
          rw [HKS.out]
          exact ⟨_, rfl, S1.out⟩
end Go.Proofs.Ytjinabglachglaa
