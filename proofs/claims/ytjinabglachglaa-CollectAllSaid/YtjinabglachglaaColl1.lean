import Derived.Test.YtjinabglachglaaCore
import Derived.Test.YtjinabglachglaaMapR
import Derived.Deep.RegionHeld3
import Derived.IntWalk
/- collect: counts. -/
namespace Go.Proofs.Ytjinabglachglaa
set_option linter.unusedSimpArgs false
open Go.RowKit
set_option linter.unusedVariables false
/-- What this pointer points to answers as H, from w on. -/
structure HAns (w : World) (ho : Option Addr) (H : HeapM) : Prop where
  all : ∀ W, Below w.heap.size w W → Calls Try.prog 23 #[.pointer ho] W (RefsPost (H.objs.map (·.1)) W)
  kind : ∀ W, Below w.heap.size w W → ∀ v : V, Calls Try.prog 19 #[.pointer ho, v.val] W fun e W' => e = .returned (.int .i64 (H.kind v)) ∧ Below W.heap.size W W'
  count : ∀ W, Below w.heap.size w W → ∀ (n : Int) (hn : okI n), (getL H.objs n).isSome = true → Calls Try.prog 25 #[.pointer ho, (V.ref n hn).val] W fun e W' => e = .returned (.int .i64 (cnt (allVals H.objs) n)) ∧ Below W.heap.size W W'
  refs : ∀ W, Below w.heap.size w W → ∀ (n : Int) (hn : okI n), Calls Try.prog 22 #[.pointer ho, (V.ref n hn).val] W (RefsPost (H.refsOf n) W)
theorem HAns.kept {w w1 : World} {ho : Option Addr} {H : HeapM} (A : HAns w ho H) (hb : Below w.heap.size w w1) : HAns w1 ho H :=
  ⟨fun W h => A.all W (Below.next hb h hb.size), fun W h => A.kind W (Below.next hb h hb.size), fun W h => A.count W (Below.next hb h hb.size), fun W h => A.refs W (Below.next hb h hb.size)⟩
theorem HAns.of {w : World} {h : Nat} {H : HeapM} {F : List Nat} {N : Nat} (hh : HeapIs w h H (fun _ => 0) F) (G : H.Good N) (hN : N ≤ 4000000) : HAns w (some ⟨h, 0, none⟩) H := by
  have hk : ∀ W, Below w.heap.size w W → HeapIs W h H (fun _ => 0) F := fun W hb => hh.of_block fun b hb' => hb.block b (hh.lt b hb')
  refine ⟨fun W hb => ?_, fun W hb v => heap_kind W h v (hk W hb), fun W hb n hn hl => ?_, fun W hb n hn => ?_⟩
  · have := G.len
    exact heap_all W h (hk W hb) (by omega) G.ok.asc
  · refine (heap_count W h (V.ref n hn) (hk W hb)).mono fun e W' ⟨e1, e2⟩ => ⟨?_, e2⟩
    rw [e1]
    have := G.cnt n
    have h2 : (H.of (V.ref n hn)).isSome = true := by unfold HeapM.of; rw [if_pos (show (V.ref n hn).kind = 4 from rfl)]; exact hl
    rw [if_pos h2, show (V.ref n hn).n = n from rfl, wrap64_id _ (by omega)]
    simp
  · have := G.items (V.ref n hn)
    rw [← HeapM.refNs_ref H n hn]
    exact heap_refs W h (V.ref n hn) (hk W hb) (by omega)
theorem cref_ok (w : World) (n : Int) :
    Calls Try.prog 48 #[.int .i64 n] w fun e w' => e = .returned (.agg #[.int .i64 4, .int .i64 n, .string ⟨#[]⟩]) ∧ Below w.heap.size w w' := by
  go_enter Try.func48, Try.ntmps48
  go_wp2
  exact bodyPost_ret (v := .agg #[.int .i64 4, .int .i64 n, .string ⟨#[]⟩]) (by simp [results, Try.results48, go_sem]) rfl ⟨rfl, by (repeat (first | exact Below.refl _ _ | assumption | refine Below.drewN ?_ _ | refine Below.drew ?_ | refine Below.alloc ?_ (by (try simp only [World.size_alloc, size_drewN, size_setCell]); omega) _ | refine Below.setCell ?_ (by (try simp only [World.size_alloc, size_drewN, size_setCell]); omega) _))⟩
section
variable {w W : World} {ho : Option Addr} {H : HeapM} {Rs : List Res} {N : Nat}
theorem Sep.rAll (S : Sep w Rs W) (hh : HAns w ho H) (G : H.Good N) (hN : N ≤ 4000000) : Calls Try.prog 23 #[.pointer ho] W fun e W' => ∃ sv, e = .returned sv ∧ Sep w (numsR sv (H.objs.map (·.1)) :: Rs) W' :=
  (hh.all W S.below).mono fun e W' ⟨sv, e1, e2, e3, e4⟩ => ⟨sv, e1, S.addRow e4 e2 e3⟩
theorem Sep.rKind (S : Sep w Rs W) (hh : HAns w ho H) (v : V) : Calls Try.prog 19 #[.pointer ho, v.val] W fun e W' => e = .returned (.int .i64 (H.kind v)) ∧ Sep w Rs W' :=
  (hh.kind W S.below v).mono fun e W' ⟨e1, e2⟩ => ⟨e1, S.later e2⟩
theorem Sep.rCount (S : Sep w Rs W) (hh : HAns w ho H) (G : H.Good N) (hN : N ≤ 4000000) (n : Int) (hn : okI n) (hl : (getL H.objs n).isSome = true) : Calls Try.prog 25 #[.pointer ho, (V.ref n hn).val] W fun e W' => e = .returned (.int .i64 (cnt (allVals H.objs) n)) ∧ Sep w Rs W' :=
  (hh.count W S.below n hn hl).mono fun e W' ⟨e1, e2⟩ => ⟨e1, S.later e2⟩
theorem Sep.rRefs (S : Sep w Rs W) (hh : HAns w ho H) (G : H.Good N) (hN : N ≤ 4000000) (n : Int) (hn : okI n) : Calls Try.prog 22 #[.pointer ho, (V.ref n hn).val] W fun e W' => ∃ sv, e = .returned sv ∧ Sep w (numsR sv (H.refsOf n) :: Rs) W' :=
  (hh.refs W S.below n hn).mono fun e W' ⟨sv, e1, e2, e3, e4⟩ => ⟨sv, e1, S.addRow e4 e2 e3⟩
end
/-- How often each object is held, and was handed in. -/
def HeapM.leftM (H : HeapM) (ks : List Int) (E : List V) : Int → Option Int := fun n => if n ∈ ks then some (cnt (allVals H.objs) n + cnt E n) else none
theorem HeapM.leftM_nil (H : HeapM) (E : List V) : H.leftM [] E = fun _ => none := by funext n; simp [HeapM.leftM]
theorem HeapM.leftM_key (H : HeapM) (ks : List Int) (n : Int) : (fun m => if m = n then some (cnt (allVals H.objs) n) else H.leftM ks [] m) = H.leftM (ks ++ [n]) [] := by
  funext m
  unfold HeapM.leftM
  by_cases e : m = n
  · subst e; simp [cnt_nil]
  · simp [e]
theorem HeapM.leftM_in (H : HeapM) {ks : List Int} (E : List V) {x : V} (hk : x.kind = 4) (hm : x.n ∈ ks) : (fun m => if m = x.n then some (cnt (allVals H.objs) x.n + cnt E x.n + 1) else H.leftM ks E m) = H.leftM ks (E ++ [x]) := by
  funext m
  unfold HeapM.leftM
  rw [cnt_append, cnt_cons, cnt_nil]
  by_cases e : m = x.n
  · subst e; simp [hm, hk]; omega
  · simp [e, Ne.symm e]
theorem HeapM.leftM_out (H : HeapM) {ks : List Int} (E : List V) {x : V} (hk : ¬ (x.kind = 4 ∧ x.n ∈ ks)) : H.leftM ks E = H.leftM ks (E ++ [x]) := by
  funext m
  unfold HeapM.leftM
  rw [cnt_append, cnt_cons, cnt_nil]
  by_cases e : m ∈ ks
  · rw [if_pos e, if_pos e, if_neg (fun h : x.kind = 4 ∧ x.n = m => hk ⟨h.1, h.2 ▸ e⟩)]; simp
  · rw [if_neg e, if_neg e]
theorem cnt_take_le (E : List V) (k : Nat) (n : Int) : 0 ≤ cnt (E.take k) n ∧ cnt (E.take k) n ≤ E.length := by
  have h1 := cnt_le (E.take k) n
  have h2 := cnt_nonneg (E.take k) n
  simp at h1
  omega
set_option maxRecDepth 100000 in
set_option maxHeartbeats 1600000 in
theorem counts_ok (w : World) (ho : Option Addr) {H : HeapM} {N : Nat} (hh : HAns w ho H) (G : H.Good N) (hN : N ≤ 4000000) (hk : H.Kinds) (sv : Value) (E : List V) (hs : SeesV w sv E) (hE : E.length ≤ 4000000) :
    Calls Try.prog 78 #[.pointer ho, sv] w fun e W => ∃ b, e = .returned (.map (some b)) ∧ Sep w [mapR exI b (H.leftM (H.objs.map (·.1)) E)] W := by
  have HS := Lib.hid hs
  obtain ⟨a, ac, rfl, a1, a2, a3⟩ := hs
  have hE' : (E.length : Int) ≤ 4000000 := by omega
  have hmk : ∀ w1 : World, (Instr.makeMap 68 none).run Try.prog w1 = .ok (.map (some w1.heap.size)) (w1.alloc (.map #[] 0)) := fun w1 => run_makeMap _ w1
  have S0 := Lib.hid ((Sep.start (Below.refl w.heap.size w)).mapNew exI)
  have HG := Lib.hid (And.intro hh (And.intro G (And.intro hN (And.intro hk hE))))
  have hz : ∀ W, (zeroValue 3).run Try.prog W = .ok (.int .i64 0) W := fun W => Try.zeroValue3 W
  have HZ := Lib.hid hz
  clear a1 a2 a3 hh G hN hk hE hz
  go_enter Try.func78, Try.ntmps78
  go_wp2_with fail
  have A1 := Lib.hid (S0.out.rAll HG.out.1 HG.out.2.1 HG.out.2.2.1)
  refine A1.out.mono ?_
  rintro e w1 ⟨rv, rfl, S1⟩
  obtain ⟨ra, rc, rfl⟩ := (S1.row 0 rfl).form
  have hkl : ((H.objs.map (·.1)).length : Int) ≤ 4000000 := by have := HG.out.2.1.len; have := HG.out.2.2.1; simp; omega
  have hnum := HeapM.keys_nums HG.out.2.1
  obtain ⟨ks, hks⟩ : ∃ ks, H.objs.map (·.1) = ks := ⟨_, rfl⟩
  rw [hks] at S1 hkl hnum ⊢
  replace S1 := Lib.hid S1
  have HNUM := Lib.hid hnum
  have HKS := Lib.hid hks
  clear A1 S0 hks hnum
  go_wp2
  go_loopw [14] (fun i wr => ∃ k : Nat, k ≤ ks.length ∧ i = .int .i64 k ∧ Sep w [numsR (.slice ra ks.length rc) ks, mapR exI w.heap.size (H.leftM (ks.take k) [])] wr) (fun i _ => ks.length - (intOf i).toNat)
  case atStart => exact ⟨0, by omega, rfl, by rw [List.take_zero, HeapM.leftM_nil]; exact S1.out⟩
  case round =>
    clear S1
    obtain ⟨k, hk, rfl, S1⟩ := hrel
    by_cases hlt : k < ks.length
    · obtain ⟨n, hn⟩ : ∃ n, ks[k]? = some n := ⟨ks[k], by simp [hlt]⟩
      obtain ⟨g, rfl⟩ := S1.numAddr 0 rfl hlt
      have c0 := S1.numCell 0 rfl hn
      have hkn := HNUM.out.ok HG.out.2.1 HG.out.2.2.1 n (List.mem_of_getElem? hn)
      have hil : (k : Int) < ks.length := by omega
      have hnext := HeapM.leftM_key H (ks.take k) n
      rw [show ks.take k ++ [n] = ks.take (k + 1) by rw [List.take_add_one, hn]; rfl] at hnext
      have HX := Lib.hid (And.intro hnext (And.intro hlt (HNUM.out.2 n (List.mem_of_getElem? hn))))
      replace S1 := Lib.hid S1
      clear hnext hn hlt
      go_wp2_with fail
      refine (cref_ok _ n).mono ?_
      rintro e w2 ⟨rfl, hb1⟩
      have C := (S1.out.later hb1).rCount HG.out.1 HG.out.2.1 HG.out.2.2.1 n hkn HX.out.2.2
      replace C := Lib.hid C
      simp only [V.val, V.ref] at C
      clear hb1 c0 S1
      go_wp2_with fail
      refine C.out.mono ?_
      rintro e w3 ⟨rfl, S2⟩
      obtain ⟨w4, hrun, S3⟩ := S2.mapSet 1 rfl Try.underlying68 n hkn (cnt (allVals H.objs) n)
      simp only [exI] at hrun
      replace S3 := Lib.hid S3
      clear S2 C
      go_wp2
      refine ⟨⟨k + 1, by have := HX.out.2.1; omega, by go_num, ?_⟩, by have := HX.out.2.1; simp [intOf]; omega⟩
      rw [← HX.out.1]; exact S3.out
    · obtain rfl : k = ks.length := by omega
      rw [List.take_length] at S1
      replace S1 := Lib.hid S1.tail
      clear hlt hk
      go_wp2
      go_loopw [27] (fun i wr => ∃ k : Nat, k ≤ E.length ∧ i = .int .i64 k ∧ Sep w [mapR exI w.heap.size (H.leftM ks (E.take k))] wr) (fun i _ => E.length - (intOf i).toNat)
      case atStart => exact ⟨0, by omega, rfl, S1.out⟩
      case round =>
        clear S1
        obtain ⟨k, hk, rfl, S1⟩ := hrel
        by_cases hlt : k < E.length
        · obtain ⟨x, hx⟩ : ∃ x, E[k]? = some x := ⟨E[k], by simp [hlt]⟩
          obtain ⟨g, o, rfl, hc⟩ : ∃ g o, a = some ⟨g, o, none⟩ ∧ ∀ i v, E[i]? = some v → w.cell? ⟨g, o + i * 3, none⟩ = some (.int .i64 v.kind) ∧ w.cell? ⟨g, o + i * 3 + 1, none⟩ = some (.int .i64 v.n) ∧ w.cell? ⟨g, o + i * 3 + 2, none⟩ = some (.string v.s) := by
            obtain ⟨a', c', he, _, _, h3⟩ := HS.out
            cases he
            rcases h3 with h | h
            · subst h; simp at hlt
            · exact h
          obtain ⟨c0, c1, c2⟩ := hc k x hx
          replace c0 := cellBelow c0 S1.below
          replace c1 := cellBelow c1 S1.below
          replace c2 := cellBelow c2 S1.below
          have hil : (k : Int) < E.length := by omega
          have hE2 : E.take k ++ [x] = E.take (k + 1) := by rw [List.take_add_one, hx]; rfl
          obtain ⟨kd, hkd⟩ : ∃ kd, H.kind x = kd := ⟨_, rfl⟩
          have S2 := S1.alloc (.cells #[.int .i64 x.kind, .int .i64 x.n, .string x.s] 41)
          have K := S2.rKind HG.out.1 x
          rw [hkd] at K
          replace K := Lib.hid K
          have hz := HG.out.2.2.2.1.zero x
          rw [hkd] at hz
          have hct := cnt_take_le E k x.n
          have hca := HG.out.2.1.cnt x.n
          have hw64 : wrap64 (cnt (allVals H.objs) x.n + cnt (E.take k) x.n + 1) = cnt (allVals H.objs) x.n + cnt (E.take k) x.n + 1 := by
            have := HG.out.2.2.1; have := HG.out.2.2.2.2
            exact wrap64_id _ (by omega)
          have HX := Lib.hid (And.intro hE2 (And.intro hlt hw64))
          clear hx hc S1 S2 hE2 hlt hct hca hw64
          by_cases hs : (H.of x).isSome = true
          · have hkz : (kd != 0) = true := by
              rw [bne_iff_ne]; intro e; have := hz.1 e; rw [hs] at this; cases this
            have hin : x.kind = 4 ∧ x.n ∈ ks := by
              obtain ⟨o', ho'⟩ := Option.isSome_iff_exists.1 hs
              have := HeapM.of_some ho'
              refine ⟨this.1, ?_⟩
              rw [← HKS.out]
              exact List.mem_map.2 ⟨_, getL_mem this.2, rfl⟩
            have HIN := Lib.hid hin
            clear hs hz hkd hin
            simp only [V.val] at K
            go_wp2_with fail
            refine K.out.mono ?_
            rintro e w2 ⟨rfl, S3⟩
            have b0 := S3.box 0 rfl
            have e1 := cellAt b0 1 (v := .int .i64 x.n) rfl
            have hget := S3.mapGet 1 rfl Try.underlying68 HZ.out x.n x.hn
            have hf : H.leftM ks (E.take k) x.n = some (cnt (allVals H.objs) x.n + cnt (E.take k) x.n) := by unfold HeapM.leftM; rw [if_pos HIN.out.2]
            rw [hf] at hget
            simp only [exI] at hget
            obtain ⟨w4, hrun, S4⟩ := S3.mapSet 1 rfl Try.underlying68 x.n x.hn (wrap64 (cnt (allVals H.objs) x.n + cnt (E.take k) x.n + 1))
            simp only [exI] at hrun
            rw [HX.out.2.2, HeapM.leftM_in H (E.take k) HIN.out.1 HIN.out.2, HX.out.1] at S4
            replace S4 := Lib.hid S4
            clear S3 K hf b0
            generalize cnt (allVals H.objs) x.n + cnt (E.take k) x.n = q at *
            go_wp2
            refine ⟨⟨k + 1, by have := HX.out.2.1; omega, by go_num, ?_⟩, by have := HX.out.2.1; simp [intOf]; omega⟩
            exact S4.out.tail
          · have hkz : (kd != 0) = false := by
              have := hz.2 (by simpa using hs); simp [this]
            have hin : ¬ (x.kind = 4 ∧ x.n ∈ ks) := fun ⟨h1, h2⟩ => hs (by
              unfold HeapM.of; rw [if_pos h1]; exact HNUM.out.2 _ h2)
            have HIN := Lib.hid hin
            clear hs hz hkd hin
            simp only [V.val] at K
            go_wp2_with fail
            refine K.out.mono ?_
            rintro e w2 ⟨rfl, S3⟩
            replace S3 := Lib.hid S3
            clear K
            go_wp2
            refine ⟨⟨k + 1, by have := HX.out.2.1; omega, by go_num, ?_⟩, by have := HX.out.2.1; simp [intOf]; omega⟩
            rw [← HX.out.1, ← HeapM.leftM_out H (E.take k) HIN.out]; exact S3.out.tail
        · obtain rfl : k = E.length := by omega
          rw [List.take_length] at S1
          replace S1 := Lib.hid S1
          clear hlt hk
          go_wp2
          go_ret
          rw [HKS.out]
          exact ⟨_, rfl, S1.out⟩
end Go.Proofs.Ytjinabglachglaa
/- collect, plainly: what is reached. -/
namespace Go.Proofs.Ytjinabglachglaa
set_option linter.unusedSimpArgs false
open Go.RowKit
set_option linter.unusedVariables false
/-- Some are taken off. -/
def subM (f : Int → Option Int) (T : List Int) : Int → Option Int := fun n => (f n).map (· - (T.count n : Int))
theorem subM_nil (f : Int → Option Int) : subM f [] = f := by funext n; unfold subM; cases f n <;> simp
theorem subM_snoc (f : Int → Option Int) (T : List Int) (n x : Int) (hf : f n = some x) : (fun m => if m = n then some (x - (T.count n : Int) - 1) else subM f T m) = subM f (T ++ [n]) := by
  funext m
  unfold subM
  by_cases e : m = n
  · subst e; simp [hf, List.count_append]; omega
  · simp [e, List.count_append, List.count_cons, Ne.symm e]
def isIn (L : List Int) : Int → Option Bool := fun n => if n ∈ L then some true else none
theorem isIn_nil : isIn [] = fun _ => none := by funext n; simp [isIn]
theorem isIn_snoc (L : List Int) (n : Int) : (fun m => if m = n then some true else isIn L m) = isIn (L ++ [n]) := by
  funext m
  unfold isIn
  by_cases e : m = n
  · simp [e]
  · simp [e]
/-- From these on, k looked at. -/
def HeapM.goK (H : HeapM) (xs : List Int) : Nat → List Int
  | 0 => xs
  | k + 1 => match (H.goK xs k)[k]? with | some n => addNew (H.goK xs k) (H.refsOf n) | none => H.goK xs k
theorem addNew_pre (out r : List Int) : ∃ s, addNew out r = out ++ s := by
  induction r generalizing out with
  | nil => exact ⟨[], by simp [addNew]⟩
  | cons n r ih =>
    obtain ⟨s, hs⟩ := ih (if n ∈ out then out else out ++ [n])
    refine ⟨(if n ∈ out then [] else [n]) ++ s, ?_⟩
    show addNew (if n ∈ out then out else out ++ [n]) r = _
    rw [hs]; split <;> simp
theorem addNew_has {out r : List Int} {n : Int} (h : n ∈ r) : n ∈ addNew out r := by
  induction r generalizing out with
  | nil => cases h
  | cons m r ih =>
    show n ∈ addNew (if m ∈ out then out else out ++ [m]) r
    rcases List.mem_cons.1 h with rfl | h
    · obtain ⟨s, hs⟩ := addNew_pre (if n ∈ out then out else out ++ [n]) r
      rw [hs]
      refine List.mem_append_left _ ?_
      split
      · assumption
      · simp
    · exact ih h
theorem addNew_from {out r : List Int} {n : Int} (h : n ∈ addNew out r) : n ∈ out ∨ n ∈ r := by
  induction r generalizing out with
  | nil => exact .inl h
  | cons m r ih =>
    rcases ih (out := if m ∈ out then out else out ++ [m]) h with h | h
    · split at h
      · exact .inl h
      · rcases List.mem_append.1 h with h | h
        · exact .inl h
        · simp at h; exact .inr (by simp [h])
    · exact .inr (by simp [h])
theorem HeapM.goK_pre (H : HeapM) (xs : List Int) (k : Nat) : ∃ s, H.goK xs (k + 1) = H.goK xs k ++ s := by
  conv => arg 1; ext s; lhs; unfold HeapM.goK
  split
  · exact addNew_pre _ _
  · exact ⟨[], by simp⟩
theorem HeapM.goK_nums {H : HeapM} {xs : List Int} (h : H.Nums xs) : ∀ k, H.Nums (H.goK xs k)
  | 0 => h
  | k + 1 => by
    unfold HeapM.goK
    split
    · exact addNew_nums (HeapM.goK_nums h k) (H.refsOf_live _)
    · exact HeapM.goK_nums h k
theorem HeapM.goK_refs (H : HeapM) (xs : List Int) : ∀ k i n, i < k → (H.goK xs k)[i]? = some n → ∀ m ∈ H.refsOf n, m ∈ H.goK xs k
  | 0, i, n, h, _ => by omega
  | k + 1, i, n, hi, hn => by
    intro m hm
    obtain ⟨s, hs⟩ := H.goK_pre xs k
    cases hk : (H.goK xs k)[k]? with
    | none =>
      have e : H.goK xs (k + 1) = H.goK xs k := by conv => lhs; unfold HeapM.goK
                                                   rw [hk]
      rw [e] at hn ⊢
      by_cases hik : i < k
      · exact HeapM.goK_refs H xs k i n hik hn m hm
      · obtain rfl : i = k := by omega
        rw [hk] at hn; cases hn
    | some n' =>
      have e : H.goK xs (k + 1) = addNew (H.goK xs k) (H.refsOf n') := by conv => lhs; unfold HeapM.goK
                                                                          rw [hk]
      have hkl := (List.getElem?_eq_some_iff.1 hk).1
      have hn' : (H.goK xs k)[i]? = some n := by
        rw [hs, List.getElem?_append_left (by omega)] at hn; exact hn
      by_cases hik : i < k
      · rw [hs]; exact List.mem_append_left _ (HeapM.goK_refs H xs k i n hik hn' m hm)
      · obtain rfl : i = k := by omega
        rw [hk] at hn'; cases hn'
        rw [e]; exact addNew_has hm
/-- What is reached from what is held. -/
inductive HeapM.R (H : HeapM) (E : List V) : Int → Prop
  | seed {n : Int} : (getL H.objs n).isSome = true → 0 < cnt E n → HeapM.R H E n
  | step {n m : Int} : HeapM.R H E n → m ∈ H.refsOf n → HeapM.R H E m
theorem HeapM.goK_R {H : HeapM} {E : List V} {xs : List Int} (h : ∀ n ∈ xs, H.R E n) : ∀ k, ∀ n ∈ H.goK xs k, H.R E n
  | 0 => h
  | k + 1 => fun n hn => by
    unfold HeapM.goK at hn
    split at hn
    · rename_i m hm
      rcases addNew_from hn with h' | h'
      · exact HeapM.goK_R h k n h'
      · exact .step (HeapM.goK_R h k m (List.mem_of_getElem? hm)) h'
    · exact HeapM.goK_R h k n hn
theorem HeapM.goK_sub (H : HeapM) (xs : List Int) : ∀ k, ∀ n ∈ xs, n ∈ H.goK xs k
  | 0 => fun _ h => h
  | k + 1 => fun n hn => by
    obtain ⟨s, hs⟩ := H.goK_pre xs k
    rw [hs]; exact List.mem_append_left _ (HeapM.goK_sub H xs k n hn)
theorem HeapM.goK_end {H : HeapM} {E : List V} {xs : List Int} (h : ∀ n, n ∈ xs ↔ (getL H.objs n).isSome = true ∧ 0 < cnt E n) {k : Nat} (hk : (H.goK xs k).length ≤ k) (n : Int) : n ∈ H.goK xs k ↔ H.R E n := by
  constructor
  · exact HeapM.goK_R (fun n hn => .seed ((h n).1 hn).1 ((h n).1 hn).2) k n
  · intro hr
    induction hr with
    | seed h1 h2 => exact H.goK_sub xs k _ ((h _).2 ⟨h1, h2⟩)
    | step _ h2 ih =>
      obtain ⟨i, hi⟩ := List.getElem?_of_mem ih
      exact H.goK_refs xs k i _ (by have := (List.getElem?_eq_some_iff.1 hi).1; omega) hi _ h2
/-- All that live objects hold. -/
theorem HeapM.refs_count {H : HeapM} {N : Nat} (G : H.Good N) (n : Int) (hn : (getL H.objs n).isSome = true) : (((H.objs.map (·.1)).flatMap H.refsOf).count n : Int) = cnt (allVals H.objs) n := by
  have hone : ∀ p ∈ H.objs, H.refsOf p.1 = (H.refs p.2).map (·.n) := fun p hp => by
    unfold HeapM.refsOf
    rw [getL_of_mem G.ok.nk hp]
  have hvals : ∀ l : List V, ((l.filter fun x => (H.of x).isSome).map (·.n)).count n = (l.filter (isRef n)).length := by
    intro l
    induction l with
    | nil => rfl
    | cons x r ih =>
      by_cases hx : (H.of x).isSome = true
      · rw [List.filter_cons_of_pos (p := fun x => (H.of x).isSome) hx, List.map_cons, List.count_cons, ih]
        obtain ⟨o, ho⟩ := Option.isSome_iff_exists.1 hx
        have hk := (HeapM.of_some ho).1
        by_cases e : x.n = n
        · rw [List.filter_cons_of_pos (by simp [isRef, hk, e])]; simp [e]
        · rw [List.filter_cons_of_neg (by simp [isRef, e])]; simp [e]
      · rw [List.filter_cons_of_neg (p := fun x => (H.of x).isSome) hx, ih]
        rw [List.filter_cons_of_neg]
        intro h
        simp only [isRef, Bool.and_eq_true, decide_eq_true_eq] at h
        refine hx ?_
        unfold HeapM.of; rw [if_pos h.1, h.2]; exact hn
  have : ∀ l : List (Int × ObjM), (∀ p ∈ l, p ∈ H.objs) → (((l.map (·.1)).flatMap H.refsOf).count n : Int) = cnt (allVals l) n := by
    intro l
    induction l with
    | nil => intro _; rfl
    | cons p r ih =>
      intro hl
      have hc : allVals (p :: r) = p.2.vals ++ allVals r := by simp [allVals]
      rw [List.map_cons, List.flatMap_cons, List.count_append, hone p (hl p (by simp)), hc, cnt_append, ← ih (fun q hq => hl q (by simp [hq]))]
      unfold HeapM.refs
      rw [hvals p.2.vals]
      unfold cnt
      omega
  exact this H.objs (fun _ h => h)
/-- What is left when all that objects hold is taken off. -/
theorem HeapM.left_sub {H : HeapM} {N : Nat} (G : H.Good N) (E : List V) : subM (H.leftM (H.objs.map (·.1)) E) ((H.objs.map (·.1)).flatMap H.refsOf) = fun n => if (getL H.objs n).isSome = true then some (cnt E n) else none := by
  funext n
  unfold subM HeapM.leftM
  by_cases hn : (getL H.objs n).isSome = true
  · have hm : n ∈ H.objs.map (·.1) := by
      obtain ⟨o, ho⟩ := Option.isSome_iff_exists.1 hn
      exact List.mem_map.2 ⟨_, getL_mem ho, rfl⟩
    rw [if_pos hm, if_pos hn, Option.map_some, HeapM.refs_count G n hn]
    congr 1; omega
  · have hm : n ∉ H.objs.map (·.1) := fun h => hn ((HeapM.keys_nums G).2 n h)
    rw [if_neg hm, if_neg hn]; rfl
theorem HeapM.count_le {H : HeapM} {N : Nat} (G : H.Good N) (T : List Int) (n : Int) (hT : T.Sublist ((H.objs.map (·.1)).flatMap H.refsOf)) (hn : (getL H.objs n).isSome = true) : (T.count n : Int) ≤ cnt (allVals H.objs) n := by
  rw [← HeapM.refs_count G n hn]
  have := hT.count_le n
  omega
end Go.Proofs.Ytjinabglachglaa
/- collect: marks. -/
namespace Go.Proofs.Ytjinabglachglaa
set_option linter.unusedSimpArgs false
open Go.RowKit
set_option linter.unusedVariables false
def exB (b : Bool) : Value := .bool b
def posOf (l : List (Int × Int)) : List Int := (l.filter fun p => decide (0 < p.2)).map (·.1)
theorem posOf_snoc (l : List (Int × Int)) (p : Int × Int) : posOf (l ++ [p]) = if 0 < p.2 then posOf l ++ [p.1] else posOf l := by
  unfold posOf
  rw [List.filter_append]
  by_cases h : 0 < p.2
  · rw [if_pos h, List.filter_cons_of_pos (by simpa using h)]; simp
  · rw [if_neg h, List.filter_cons_of_neg (by simpa using h)]; simp
theorem posOf_mem {H : HeapM} {E : List V} {l done : List (Int × Int)} (hn : (l.map (·.1)).Nodup) (hf : ∀ n, getL l n = if (getL H.objs n).isSome = true then some (cnt E n) else none) (hp : done.Perm l) : (posOf done).Nodup ∧ ∀ n, n ∈ posOf done ↔ (getL H.objs n).isSome = true ∧ 0 < cnt E n := by
  refine ⟨((List.filter_sublist.map _).nodup ((hp.map _).nodup_iff.2 hn)), fun n => ?_⟩
  unfold posOf
  rw [List.mem_map]
  constructor
  · rintro ⟨p, h1, rfl⟩
    have h2 := List.mem_filter.1 h1
    have h3 := getL_of_mem hn (hp.mem_iff.1 h2.1)
    rw [hf] at h3
    split at h3
    · rename_i h4
      have h5 := Option.some.inj h3
      have h6 : 0 < p.2 := by simpa using h2.2
      exact ⟨h4, by omega⟩
    · cases h3
  · rintro ⟨h1, h2⟩
    have h3 := hf n
    rw [if_pos h1] at h3
    exact ⟨_, List.mem_filter.2 ⟨hp.mem_iff.2 (getL_mem h3), by simpa using h2⟩, rfl⟩
theorem take_refs_sub (H : HeapM) (ks : List Int) (k : Nat) (n : Int) (hn : ks[k]? = some n) (m : Nat) : ((ks.take k).flatMap H.refsOf ++ (H.refsOf n).take m).Sublist (ks.flatMap H.refsOf) := by
  have h1 : ks = ks.take k ++ n :: ks.drop (k + 1) := by
    have hk := (List.getElem?_eq_some_iff.1 hn).1
    conv => lhs; rw [← List.take_append_drop k ks]
    rw [List.drop_eq_getElem_cons hk, (List.getElem?_eq_some_iff.1 hn).2]
  conv => rhs; rw [h1]
  rw [List.flatMap_append, List.flatMap_cons]
  exact List.Sublist.append (List.Sublist.refl _) ((List.take_sublist _ _).trans (List.sublist_append_left _ _))
set_option maxRecDepth 100000 in
set_option maxHeartbeats 3200000 in
theorem marks_ok (w : World) (ho : Option Addr) {H : HeapM} {N : Nat} (hh : HAns w ho H) (G : H.Good N) (hN : N ≤ 4000000) (hk : H.Kinds) (sv : Value) (E : List V) (hs : SeesV w sv E) (hE : E.length ≤ 4000000) :
    Calls Try.prog 44 #[.pointer ho, sv] w fun e W => ∃ b L, e = .returned (.map (some b)) ∧ Sep w [mapR exB b (isIn L)] W ∧ ∀ n, n ∈ L ↔ H.R E n := by
  have C := Lib.hid (counts_ok w ho hh G hN hk sv E hs hE)
  obtain ⟨a, ac, rfl, a1, a2, a3⟩ := hs
  have HG := Lib.hid (And.intro hh (And.intro G (And.intro hN (And.intro hk hE))))
  have hmk : ∀ w1 : World, (Instr.makeMap 72 none).run Try.prog w1 = .ok (.map (some w1.heap.size)) (w1.alloc (.map #[] 0)) := fun w1 => run_makeMap _ w1
  have HZ := Lib.hid (fun W => Try.zeroValue3 W : ∀ W, (zeroValue 3).run Try.prog W = .ok (.int .i64 0) W)
  have HZB := Lib.hid (fun W => Try.zeroValue4 W : ∀ W, (zeroValue 4).run Try.prog W = .ok (.bool false) W)
  have HSUB := Lib.hid (HeapM.left_sub G E)
  clear a1 a2 a3 hh G hN hk hE
  go_enter Try.func44, Try.ntmps44
  go_wp2_with fail
  refine C.out.mono ?_
  rintro e w1 ⟨b, rfl, S1⟩
  have A1 := Lib.hid (S1.rAll HG.out.1 HG.out.2.1 HG.out.2.2.1)
  clear S1 C
  go_wp2_with fail
  refine A1.out.mono ?_
  rintro e w2 ⟨rv, rfl, S1⟩
  obtain ⟨ra, rc, rfl⟩ := (S1.row 0 rfl).form
  have hkl : ((H.objs.map (·.1)).length : Int) ≤ 4000000 := by have := HG.out.2.1.len; have := HG.out.2.2.1; simp; omega
  have hnum := HeapM.keys_nums HG.out.2.1
  have HCL := Lib.hid (fun T n => HeapM.count_le HG.out.2.1 T n)
  obtain ⟨ks, hks⟩ : ∃ ks, H.objs.map (·.1) = ks := ⟨_, rfl⟩
  rw [hks] at S1 hkl hnum HSUB HCL ⊢
  have HNUM := Lib.hid hnum
  have HKS := Lib.hid hks
  obtain ⟨f0, hf0⟩ : ∃ f0, H.leftM ks E = f0 := ⟨_, rfl⟩
  rw [hf0] at S1 HSUB
  have HF := Lib.hid (show ∀ n, (getL H.objs n).isSome = true → f0 n = some (cnt (allVals H.objs) n + cnt E n) from fun n hn => by
    rw [← hf0]; unfold HeapM.leftM
    rw [if_pos]
    rw [← hks]
    obtain ⟨o, ho⟩ := Option.isSome_iff_exists.1 hn
    exact List.mem_map.2 ⟨_, getL_mem ho, rfl⟩)
  replace S1 := Lib.hid S1
  clear A1 hks hnum hf0
  go_wp2
  go_loopw [23] (fun i wr => ∃ k : Nat, k ≤ ks.length ∧ i = .int .i64 k ∧ Sep w [numsR (.slice ra ks.length rc) ks, mapR exI b (subM f0 ((ks.take k).flatMap H.refsOf))] wr) (fun i _ => ks.length - (intOf i).toNat)
  case atStart => exact ⟨0, by omega, rfl, by rw [List.take_zero, List.flatMap_nil, subM_nil]; exact S1.out⟩
  case round =>
    clear S1
    obtain ⟨k, hk, rfl, S1⟩ := hrel
    by_cases hlt : k < ks.length
    · obtain ⟨n, hn⟩ : ∃ n, ks[k]? = some n := ⟨ks[k], by simp [hlt]⟩
      obtain ⟨g, rfl⟩ := S1.numAddr 0 rfl hlt
      have c0 := S1.numCell 0 rfl hn
      have hkn := HNUM.out.ok HG.out.2.1 HG.out.2.2.1 n (List.mem_of_getElem? hn)
      have hil : (k : Int) < ks.length := by omega
      have hnext : (ks.take k).flatMap H.refsOf ++ H.refsOf n = (ks.take (k + 1)).flatMap H.refsOf := by rw [List.take_add_one, hn, List.flatMap_append]; simp
      have HX := Lib.hid (And.intro hnext (And.intro hlt (take_refs_sub H ks k n hn)))
      replace S1 := Lib.hid S1
      clear hnext hn hlt
      go_wp2_with fail
      refine (cref_ok _ n).mono ?_
      rintro e w2 ⟨rfl, hb1⟩
      have C := (S1.out.later hb1).rRefs HG.out.1 HG.out.2.1 HG.out.2.2.1 n hkn
      replace C := Lib.hid C
      simp only [V.val, V.ref] at C
      clear hb1 c0 S1
      go_wp2_with fail
      refine C.out.mono ?_
      rintro e w3 ⟨qv, rfl, S2⟩
      obtain ⟨qa, qc, rfl⟩ := (S2.row 0 rfl).form
      have hrl : ((H.refsOf n).length : Int) ≤ 4000000 := by have := HG.out.2.1.refs_len n; have := HG.out.2.2.1; omega
      have HLV := Lib.hid (H.refsOf_live n)
      obtain ⟨r, hr⟩ : ∃ r, H.refsOf n = r := ⟨_, rfl⟩
      rw [hr] at S2 HX hrl HLV ⊢
      replace S2 := Lib.hid S2
      obtain ⟨T, hT⟩ : ∃ T, (ks.take k).flatMap H.refsOf = T := ⟨_, rfl⟩
      rw [hT] at S2 HX
      clear C hr hT
      go_wp2
      obtain ⟨wo, hwo⟩ : ∃ wo : World, wo = w3 := ⟨_, rfl⟩
      subst hwo
      go_loopw [32] (fun i wr => ∃ m : Nat, m ≤ r.length ∧ i = .int .i64 m ∧ Sep w [numsR (.slice qa r.length qc) r, numsR (.slice (some ⟨g, 0, none⟩) ks.length rc) ks, mapR exI b (subM f0 (T ++ r.take m))] wr) (fun i _ => r.length - (intOf i).toNat)
      case atStart => exact ⟨0, by omega, rfl, by rw [List.take_zero, List.append_nil]; exact S2.out⟩
      case round =>
        clear S2
        obtain ⟨m, hm, rfl, S2⟩ := hrel
        by_cases hlt : m < r.length
        · obtain ⟨x, hx⟩ : ∃ x, r[m]? = some x := ⟨r[m], by simp [hlt]⟩
          obtain ⟨g2, rfl⟩ := S2.numAddr 0 rfl hlt
          have c0 := S2.numCell 0 rfl hx
          have hlv := HLV.out x (List.mem_of_getElem? hx)
          have hkx : okI x := by
            obtain ⟨o, ho⟩ := Option.isSome_iff_exists.1 hlv
            exact HG.out.2.1.key HG.out.2.2.1 (getL_mem ho)
          have hil2 : (m : Int) < r.length := by omega
          have hf := HF.out x hlv
          have hget := S2.mapGet 2 rfl Try.underlying68 HZ.out x hkx
          have hcv : subM f0 (T ++ r.take m) x = some (cnt (allVals H.objs) x + cnt E x - ((T ++ r.take m).count x : Int)) := by unfold subM; rw [hf]; rfl
          have h1 := HCL.out _ x (HX.out.2.2 m) hlv
          have h2 := HG.out.2.1.cnt x
          have h3 := cnt_take_le E E.length x
          rw [List.take_length] at h3
          have hw64 : wrap64 (cnt (allVals H.objs) x + cnt E x - ((T ++ r.take m).count x : Int) - 1) = cnt (allVals H.objs) x + cnt E x - ((T ++ r.take m).count x : Int) - 1 := by
            have := HG.out.2.2.1; have := HG.out.2.2.2.2
            exact wrap64_id _ (by omega)
          rw [hcv] at hget
          simp only [exI] at hget
          obtain ⟨w4, hrun, S4⟩ := S2.mapSet 2 rfl Try.underlying68 x hkx (wrap64 (cnt (allVals H.objs) x + cnt E x - ((T ++ r.take m).count x : Int) - 1))
          simp only [exI] at hrun
          rw [hw64, subM_snoc f0 _ x _ hf, List.append_assoc, show r.take m ++ [x] = r.take (m + 1) by rw [List.take_add_one, hx]; rfl] at S4
          replace S4 := Lib.hid S4
          have HM := Lib.hid hlt
          clear S2 hcv hf h1 h2 h3 hw64 hlv hlt hx
          generalize cnt (allVals H.objs) x + cnt E x - ((T ++ r.take m).count x : Int) = q at *
          go_wp2
          refine ⟨⟨m + 1, by have := HM.out; omega, by go_num, S4.out⟩, by have := HM.out; simp [intOf]; omega⟩
        · obtain rfl : m = r.length := by omega
          rw [List.take_length, HX.out.1] at S2
          replace S2 := Lib.hid S2.tail
          clear hlt hm
          go_wp2
          exact ⟨⟨k + 1, by have := HX.out.2.1; omega, by go_num, S2.out⟩, by have := HX.out.2.1; simp [intOf]; omega⟩
    · obtain rfl : k = ks.length := by omega
      rw [List.take_length, HSUB.out] at S1
      replace S1 := Lib.hid S1.tail
      have HPM := Lib.hid (fun l done => @posOf_mem H E l done)
      have hok : ∀ n, (getL H.objs n).isSome = true → okI n := fun n hn => by
        obtain ⟨o, ho⟩ := Option.isSome_iff_exists.1 hn
        exact HG.out.2.1.key HG.out.2.2.1 (getL_mem ho)
      have HOK := Lib.hid hok
      have hobl := HG.out.2.1.len
      have HOL := Lib.hid (show H.objs.length ≤ 4000000 by have := HG.out.2.2.1; omega)
      have S3 := Lib.hid ((S1.out.mapNew exB).queueNil)
      clear hlt hk hok hobl S1
      go_wp2_with (at_range; refine wpList_range_sep rfl _ 68 rfl 3 Try.underlying68 S3.out 2 rfl rfl ?_; intro l w2 l1 l2 S4)
      have HL := Lib.hid (And.intro l1 l2)
      replace S4 := Lib.hid S4
      obtain ⟨bs, hbs⟩ : ∃ bs, wr.heap.size = bs := ⟨_, rfl⟩
      obtain ⟨ir, hir⟩ : ∃ ir, (wr.alloc (.map #[] 0)).heap.size = ir := ⟨_, rfl⟩
      rw [hbs, hir] at S4 ⊢
      clear l1 l2 S3 hbs hir
      go_frame
      go_loopg [11] l.length (fun g q wx => ∃ left done, g = left.length ∧ (done ++ left).Perm l ∧ Sep w [queueR q (posOf done), mapR exB bs (isIn (posOf done)), iterR exI b ir l left] wx)
      case atStart => exact ⟨l, [], rfl, List.Perm.refl _, by rw [show posOf [] = [] from rfl, isIn_nil]; exact S4.out⟩
      case round =>
        clear S4
        obtain ⟨left, done, rfl, d1, S4⟩ := hrel
        obtain ⟨qa, qc, rfl⟩ := S4.queueForm 0 rfl
        replace S4 := Lib.hid S4
        have HD := Lib.hid d1
        clear d1
        go_wp2_with (at_next; refine wpList_next_sep rfl _ rfl rfl S4.out 2 rfl ?_ ?_)
        · intro hnil
          subst hnil
          have hp : done.Perm l := by have := HD.out; simpa using this
          obtain ⟨x1, x2⟩ := HPM.out l done HL.out.1 HL.out.2 hp
          obtain ⟨xs, hxs⟩ : ∃ xs, posOf done = xs := ⟨_, rfl⟩
          rw [hxs] at x1 x2 S4 ⊢
          have S5 := S4.out.iterEnd 2 rfl
          obtain ⟨w3, hclr, S6⟩ := S5.mapClear 2 rfl Try.underlying68
          have S7 := Lib.hid (S6.sub (.cons_cons _ (.cons_cons _ (.cons _ .slnil))))
          have HXS := Lib.hid (show H.Nums xs from ⟨x1, fun n hn => ((x2 n).1 hn).1⟩)
          have HX2 := Lib.hid x2
          clear x1 x2 hp hxs S5 S6 S4 HD HPM
          go_wp2
          go_loopg [11] (H.objs.length) (fun g q wx => ∃ k, g = H.objs.length - k ∧ k ≤ (H.goK xs k).length ∧ Sep w [queueR q ((H.goK xs k).drop k), mapR exB bs (isIn (H.goK xs k))] wx)
          case atStart => exact ⟨0, by omega, by omega, S7.out⟩
          case round =>
            clear S7
            obtain ⟨k, rfl, hk, S4⟩ := hrel
            have hnum := HeapM.goK_nums HXS.out k
            have hll := hnum.len
            by_cases hlt : k < (H.goK xs k).length
            · obtain ⟨n, hn⟩ : ∃ n, (H.goK xs k)[k]? = some n := ⟨(H.goK xs k)[k], by simp [hlt]⟩
              have hdr : (H.goK xs k).drop k = n :: (H.goK xs k).drop (k + 1) := by
                rw [List.drop_eq_getElem_cons hlt, (List.getElem?_eq_some_iff.1 hn).2]
              have hnext : H.goK xs (k + 1) = addNew (H.goK xs k) (H.refsOf n) := by
                conv => lhs; unfold HeapM.goK
                rw [hn]
              rw [hdr] at S4
              have hkn := hnum.ok HG.out.2.1 HG.out.2.2.1 n (List.mem_of_getElem? hn)
              obtain ⟨g, off, cap, a2, c2, rfl, c0, hsl, S5⟩ := S4.queuePop 0 rfl
              have hadd : ∀ m, (addNew (H.goK xs k) ((H.refsOf n).take m)).length ≤ 4000000 := fun m => by
                have := (addNew_nums (r := (H.refsOf n).take m) hnum (fun x hx => H.refsOf_live n x (List.mem_of_mem_take hx))).len; have := HOL.out; omega
              have HX := Lib.hid (And.intro hnext (And.intro hadd (And.intro hlt (show k < H.objs.length by omega))))
              have hql : (0 : Int) < (((H.goK xs k).drop (k + 1)).length + 1 : Nat) := by omega
              obtain ⟨nx, hnx⟩ : ∃ nx, nx = H.goK xs (k + 1) := ⟨_, rfl⟩
              rw [← hnx] at HX
              have HNX := Lib.hid hnx
              obtain ⟨L, hL⟩ : ∃ L, H.goK xs k = L := ⟨_, rfl⟩
              rw [hL] at S5 HX hql hsl ⊢
              obtain ⟨ql, hqe⟩ : ∃ ql, (L.drop (k + 1)).length = ql := ⟨_, rfl⟩
              rw [hqe] at S5 hql hsl ⊢
              have HQE := Lib.hid hqe
              have HKL := Lib.hid (show k < L.length by rw [← hL]; exact hlt)
              replace S5 := Lib.hid S5
              clear S4 hL hqe hnx hadd hnext hdr hn hlt hll hnum hk hclr
              go_wp2_with fail
              refine (cref_ok _ n).mono ?_
              rintro e w4 ⟨rfl, hb1⟩
              have C := (S5.out.later hb1).rRefs HG.out.1 HG.out.2.1 HG.out.2.2.1 n hkn
              replace C := Lib.hid C
              simp only [V.val, V.ref] at C
              clear hb1 c0 S5 hsl
              go_wp2_with fail
              refine C.out.mono ?_
              rintro e w5 ⟨sv, rfl, S6⟩
              obtain ⟨ra2, rc2, rfl⟩ := (S6.row 0 rfl).form
              have hrl : ((H.refsOf n).length : Int) ≤ 4000000 := by have := HG.out.2.1.refs_len n; have := HG.out.2.2.1; omega
              have HLV := Lib.hid (H.refsOf_live n)
              obtain ⟨r, hr⟩ : ∃ r, H.refsOf n = r := ⟨_, rfl⟩
              rw [hr] at S6 HX hrl HLV ⊢
              replace S6 := Lib.hid S6
              clear C hr
              go_wp2
              obtain ⟨wo, hwo⟩ : ∃ wo : World, wo = w5 := ⟨_, rfl⟩
              subst hwo
              go_loopw [11, 72] (fun q i wx => ∃ m : Nat, m ≤ r.length ∧ i = .int .i64 m ∧ Sep w [numsR (.slice ra2 r.length rc2) r, queueR q ((addNew L (r.take m)).drop (k + 1)), mapR exB bs (isIn (addNew L (r.take m)))] wx) (fun _ i _ => r.length - (intOf i).toNat)
              case atStart => exact ⟨0, by omega, rfl, by rw [List.take_zero]; exact S6.out⟩
              case round =>
                clear S6
                obtain ⟨m, hm, rfl, S6⟩ := hrel
                by_cases hlt : m < r.length
                · obtain ⟨y, hy⟩ : ∃ y, r[m]? = some y := ⟨r[m], by simp [hlt]⟩
                  obtain ⟨g2, rfl⟩ := S6.numAddr 0 rfl hlt
                  have c0 := S6.numCell 0 rfl hy
                  have hky := HOK.out y (HLV.out y (List.mem_of_getElem? hy))
                  have hil2 : (m : Int) < r.length := by omega
                  have hsn := addNew_snoc L (r.take m) y
                  rw [show r.take m ++ [y] = r.take (m + 1) by rw [List.take_add_one, hy]; rfl] at hsn
                  have hal := HX.out.2.1 m
                  have hge : k + 1 ≤ (addNew L (r.take m)).length := by have := addNew_len L (r.take m); have := HKL.out; omega
                  obtain ⟨T, hT⟩ : ∃ T, addNew L (r.take m) = T := ⟨_, rfl⟩
                  rw [hT] at hsn hal hge S6
                  obtain ⟨qa3, qc3, rfl⟩ := S6.queueForm 1 rfl
                  have hget := S6.mapGet 2 rfl Try.underlying72 HZB.out y hky
                  have HY := Lib.hid (And.intro hsn (And.intro hlt (show (T.drop (k + 1)).length + 1 ≤ 17592186044416 by rw [List.length_drop]; omega)))
                  have HGE := Lib.hid hge
                  by_cases hmem : y ∈ T
                  · rw [if_pos hmem] at hsn
                    rw [show isIn T y = some true from if_pos hmem] at hget
                    simp only [exB] at hget
                    have HS := Lib.hid hsn
                    replace S6 := Lib.hid S6
                    clear hsn hal hge hT hlt hy hmem hky
                    go_wp2
                    refine ⟨⟨m + 1, by have := HY.out.2.1; omega, by go_num, ?_⟩, by have := HY.out.2.1; simp [intOf]; omega⟩
                    rw [HS.out]; exact S6.out
                  · rw [if_neg hmem] at hsn
                    rw [show isIn T y = none from if_neg hmem] at hget
                    obtain ⟨w6, hrun, S7⟩ := S6.mapSet 2 rfl Try.underlying72 y hky true
                    rw [isIn_snoc] at S7
                    simp only [exB] at hrun
                    have HS := Lib.hid hsn
                    replace S7 := Lib.hid S7
                    clear hsn hal hge hT hlt hy hmem hky S6
                    go_wp2_with (at_builtin; refine wpList_push_queue rfl _ _ rfl (S7.out.later (belowAlloc _ _)) 1 rfl rfl _ _ rfl (cell_of_row _ _ _ _ _ _ (heapAllocNew _ _)) HY.out.2.2 ?_)
                    intro va vc w7 S8
                    replace S8 := Lib.hid S8
                    go_wp2
                    refine ⟨⟨m + 1, by have := HY.out.2.1; omega, by go_num, ?_⟩, by have := HY.out.2.1; simp [intOf]; omega⟩
                    rw [HS.out, List.drop_append_of_le_length HGE.out]; exact S8.out
                · obtain rfl : m = r.length := by omega
                  rw [List.take_length, ← HX.out.1, HNX.out] at S6
                  obtain ⟨qa3, qc3, rfl⟩ := S6.queueForm 1 rfl
                  have hgl : k + 1 ≤ (H.goK xs (k + 1)).length := by
                    rw [← HNX.out, HX.out.1]; have := addNew_len L r; have := HKL.out; omega
                  have HGL := Lib.hid hgl
                  replace S6 := Lib.hid S6.tail
                  clear hlt hm hgl
                  go_wp2
                  go_roundg (H.objs.length - (k + 1))
                  case rel => exact ⟨k + 1, rfl, HGL.out, S6.out⟩
                  all_goals (have := HX.out.2.2.2; omega)
            · obtain hkl2 : (H.goK xs k).length ≤ k := by omega
              rw [List.drop_eq_nil_of_le hkl2] at S4
              obtain ⟨qa2, qc2, rfl⟩ := S4.queueForm 0 rfl
              have HE := Lib.hid (fun n => HeapM.goK_end HX2.out hkl2 n)
              replace S4 := Lib.hid S4.tail
              clear hlt hk hnum hll hkl2 hclr
              go_wp2
              go_ret
              exact ⟨_, _, rfl, S4.out, HE.out⟩
        · intro kp vp left' w3 hp S5 he
          obtain ⟨p, hpe⟩ : ∃ p : Int × Int, p = (kp, vp) := ⟨_, rfl⟩
          rw [← hpe] at hp
          have hpm : ((done ++ [p]) ++ left').Perm l := by
            refine List.Perm.trans ?_ HD.out
            rw [List.append_assoc]; exact List.Perm.append_left _ hp.symm
          have hlen : left.length = left'.length + 1 := by have := hp.length_eq; simpa using this
          have hml : p ∈ l := hpm.mem_iff.1 (by simp)
          have hlv : (getL H.objs p.1).isSome = true := by
            have h1 := getL_of_mem HL.out.1 hml
            rw [HL.out.2] at h1
            split at h1
            · assumption
            · cases h1
          have hkp := HOK.out p.1 hlv
          have hpl : (posOf done).length + 1 ≤ 17592186044416 := by
            have h1 : (posOf done).length ≤ done.length := by unfold posOf; rw [List.length_map]; exact List.length_filter_le _ _
            have h2 := hpm.length_eq
            have h3 : l.length ≤ H.objs.length := by
              have h4 : l.map (·.1) ⊆ H.objs.map (·.1) := fun n hn => by
                obtain ⟨q, hq, rfl⟩ := List.mem_map.1 hn
                have h5 := getL_of_mem HL.out.1 hq
                rw [HL.out.2] at h5
                split at h5
                · rename_i h6
                  obtain ⟨o, ho⟩ := Option.isSome_iff_exists.1 h6
                  exact List.mem_map.2 ⟨_, getL_mem ho, rfl⟩
                · cases h5
              have := HL.out.1.length_le_of_subset h4
              simpa using this
            have := HOL.out
            simp at h2; omega
          have hsn := posOf_snoc done p
          subst hpe
          simp only [ekI, exI] at he
          simp only at hkp hsn
          by_cases hpos : 0 < vp
          · rw [if_pos hpos] at hsn
            obtain ⟨w4, hrun, S6⟩ := S5.mapSet 1 rfl Try.underlying72 kp hkp true
            rw [isIn_snoc] at S6
            simp only [exB] at hrun
            replace S6 := Lib.hid S6
            have HY := Lib.hid (And.intro hpm (And.intro hlen (And.intro hpl hsn)))
            clear hpm hlen hml hlv hpl hsn S5 hp
            go_wp2_with (at_builtin; refine wpList_push_queue rfl _ _ rfl (S6.out.later (belowAlloc _ _)) 0 rfl rfl _ _ rfl (cell_of_row _ _ _ _ _ _ (heapAllocNew _ _)) HY.out.2.2.1 ?_)
            intro va vc w5 S7
            replace S7 := Lib.hid S7
            go_wp2
            go_roundg left'.length
            case rel =>
              refine ⟨left', done ++ [(kp, vp)], rfl, HY.out.1, ?_⟩
              rw [HY.out.2.2.2]; exact S7.out
            all_goals (have := HY.out.2.1; omega)
          · rw [if_neg hpos] at hsn
            replace S5 := Lib.hid S5
            have HY := Lib.hid (And.intro hpm (And.intro hlen (And.intro hpl hsn)))
            clear hpm hlen hml hlv hpl hsn hp
            go_wp2
            go_roundg left'.length
            case rel =>
              refine ⟨left', done ++ [(kp, vp)], rfl, HY.out.1, ?_⟩
              rw [HY.out.2.2.2]; exact S5.out
            all_goals (have := HY.out.2.1; omega)
end Go.Proofs.Ytjinabglachglaa
