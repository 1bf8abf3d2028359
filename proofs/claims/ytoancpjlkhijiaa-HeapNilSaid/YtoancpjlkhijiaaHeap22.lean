/- The heap: Sweep's closure. -/
import Derived.Test.YtoancpjlkhijiaaHeap21
namespace Go.Proofs.Ytoancpjlkhijiaa
open Go.RowKit
set_option linter.unusedVariables false
theorem wrap64_id (n : Int) (h : -9223372036854775808 ≤ n ∧ n ≤ 9223372036854775807) : wrap64 n = n := by unfold wrap64; omega
/-- In the midst of a sweep: the heap, the box of its pointer, the box of what waits. -/
structure Sw (w : World) (h : Nat) (H : HeapM) (ε : Int → Int) (F : List Nat) (bh bw : Nat) (l : List Int) (W : World) : Prop where
  bh : Boxed W bh 23 (.pointer (some ⟨h, 0, none⟩))
  bw : ∃ v, Boxed W bw 36 v ∧ slIs W 2 1 intCell v l ∧ (∀ b, v.ownBlock = some b → w.heap.size ≤ b)
  hh : ∃ F', HeapIs W h H ε F' ∧ (∀ x ∈ F', x ∈ F)
  out : Outside F w W
/-- What a call of the closure leaves as it lay. -/
def LookKeeps (w : World) (bw : Nat) (W W' : World) : Prop := W.heap.size ≤ W'.heap.size ∧ (∀ k o, W.heap[k]? = some o → k ≠ bw → (∀ cs fr, o ≠ .cells cs 2 fr) → W'.heap[k]? = some o) ∧ (∀ k, k < w.heap.size → k < W.heap.size → W'.heap[k]? = W.heap[k]?)
def isLoose (H : HeapM) (ε : Int → Int) (n : Int) : Bool := (getL H.objs n).isSome && decide (cnt (allVals H.objs) n + ε n = 0)
def LookPost (w : World) (h : Nat) (H : HeapM) (ε : Int → Int) (F : List Nat) (bh bw : Nat) (l : List Int) (n : Int) (W : World) (e : Ending) (W' : World) : Prop :=
  (∃ v, e = .returned v) ∧ Sw w h H ε F bh bw (if isLoose H ε n then l ++ [n] else l) W' ∧ LookKeeps w bw W W'
theorem look_shut {w W w4 : World} {h : Nat} {H : HeapM} {ε : Int → Int} {F : List Nat} (hF : ∀ b ∈ F, b < w.heap.size) {bh bw : Nat} {l : List Int} (S : Sw w h H ε F bh bw l W) {n : Int} (hbw : w.heap.size ≤ bw) (hbh : bh ≠ bw) (hbh2 : w.heap.size ≤ bh) {v v' : Value} {tmp : Obj}
    (v1 : Boxed W bw 36 v) (v2 : slIs W 2 1 intCell v l) (v3 : ∀ b, v.ownBlock = some b → w.heap.size ≤ b) (e1 : Boxed w4 bw 36 v) (hne : some bw ≠ v.ownBlock) (hown : w4.ownsRow 0 2 1 v' (l.length + 1) (l.flatMap intCell ++ intCell n))
    (hgrow : (W.alloc tmp).grownBy w4 v.ownBlock) (hat : v'.ownBlock = v.ownBlock ∨ v'.ownBlock = some (W.heap.size + 1)) :
    Sw w h H ε F bh bw (l ++ [n]) (w4.setCell ⟨bw, 0, none⟩ v') ∧ LookKeeps w bw W (w4.setCell ⟨bw, 0, none⟩ v') := by
  have hbl := v1.lt
  have hsz := hgrow.size
  simp only [World.size_alloc] at hsz
  have hwW := S.out.size
  have hold : ∀ k, k < W.heap.size → k ≠ bw → some k ≠ v.ownBlock → (w4.setCell ⟨bw, 0, none⟩ v').heap[k]? = W.heap[k]? := fun k hk h1 h2 => by
    rw [Below.heap_setCell _ _ _ _ h1, hgrow.block k (by simp; omega) h2, Below.heap_alloc _ _ _ hk]
  have hlow : ∀ k, k < w.heap.size → k < W.heap.size → (w4.setCell ⟨bw, 0, none⟩ v').heap[k]? = W.heap[k]? := fun k hk hk2 => hold k hk2 (by omega) (fun e => by have := v3 k e.symm; omega)
  have hne' : v'.ownBlock ≠ some bw := by
    rcases hat with h | h
    · rw [h]; exact hne.symm
    · rw [h]; simp; omega
  obtain ⟨F', hh, hFF⟩ := S.hh
  refine ⟨⟨?_, ⟨v', e1.set v', ?_, ?_⟩, ⟨F', hh.of_block fun k hk => hlow k (hF k (hFF k hk)) (hh.lt k hk), hFF⟩, ?_⟩, ?_, ?_, hlow⟩
  · have hn2 : some bh ≠ v.ownBlock := S.bh.not_row (by decide) v2
    exact (hold bh S.bh.lt hbh hn2).trans S.bh
  · refine ⟨flatMap_length _ _ intCell_len _, ?_⟩
    have := (ownsRow_block hown (w' := w4.setCell ⟨bw, 0, none⟩ v') fun g hg => Below.heap_setCell _ _ _ _ (fun e => hne' (by rw [hg, e]))).2
    simpa [intCell] using this
  · intro b hb
    rcases hat with h | h
    · exact v3 b (by rw [← h]; exact hb)
    · rw [h] at hb; cases hb; omega
  · exact ⟨hgrow.os.trans S.out.os, hgrow.tape.trans S.out.tape, hgrow.output.trans S.out.output, by simp; omega, fun k hk hn => (hlow k hk (by omega)).trans (S.out.block k hk hn)⟩
  · simp; omega
  · intro k o hk h1 h2
    refine (hold k (blockLt hk) h1 fun e => ?_).trans hk
    obtain ⟨cs, hc⟩ := v2.typed k e.symm
    rw [hk] at hc
    exact h2 _ _ (Option.some.inj hc)
theorem sweep_look (w : World) (h : Nat) {H : HeapM} {ε : Int → Int} {F : List Nat} (hF : ∀ b ∈ F, b < w.heap.size) {bh bw : Nat} {l : List Int} (W : World) (S : Sw w h H ε F bh bw l W) (n : Int) (hn : okI n) (hbw : w.heap.size ≤ bw) (hbh : bh ≠ bw) (hbh2 : w.heap.size ≤ bh)
    (hsm : -9223372036854775808 ≤ cnt (allVals H.objs) n + ε n ∧ cnt (allVals H.objs) n + ε n ≤ 9223372036854775807) (hll : l.length ≤ 4000000000) :
    Calls Try.prog 50 #[.int .i64 n, .pointer (some ⟨bh, 0, none⟩), .pointer (some ⟨bw, 0, none⟩)] W (LookPost w h H ε F bh bw l n W) := by
  have hS := Lib.hid S
  obtain ⟨kl, hkl⟩ := keyOfI hn
  have hz : ∀ W, (zeroValue 77).run Try.prog W = .ok (.pointer none) W := fun W => Try.zeroValue77 W
  have hz2 : ∀ W, (zeroValue 3).run Try.prog W = .ok (.int .i64 0) W := fun W => Try.zeroValue3 W
  have b0 := S.bh.cell
  obtain ⟨v, v1, v2, v3⟩ := S.bw
  obtain ⟨F', hh, hFF⟩ := S.hh
  have b1 := v1.cell
  have b1f := v1.frozen
  obtain ⟨ma, mr, rows, r, h1, h2, h3, h4, h5, h6, h7, h8⟩ := hh
  have c0 := cellAt h1 0 (v := .map (some ma)) rfl
  have c1 := cellAt h1 1 (v := .map (some mr)) rfl
  have hr : (Instr.lookup 73 (.map (some mr)) (.int .i64 n) false).run Try.prog W = .ok (.int .i64 (cnt (allVals H.objs) n + ε n)) W := by
    have := h3.look ekI_inj keyI Try.underlying73 (hz2 _) hkl false
    have e := h8 n
    rw [wrap64_id _ hsm] at e
    rw [← e, cntL]
    cases hg : getL r n with
    | none => rw [hg] at this; exact this
    | some x => rw [hg] at this; exact this
  have hl1 := h2.look ekI_inj keyI Try.underlying72 (hz _) hkl false
  obtain ⟨va, vcap, rfl⟩ := v2.form
  have HV := Lib.hid (And.intro v1 (And.intro v2 v3))
  have HL := Lib.hid hll
  rcases getL_map2 HRow.n HRow.b HRow.o rows n with ⟨g1, g2⟩ | ⟨p, hp, g0, g1, g2⟩
  · rw [g1] at hl1
    have hl2 : (Instr.lookup 72 (.map (some ma)) (.int .i64 n) false).run Try.prog W = .ok (.pointer none) W := hl1
    have HN := Lib.hid (show isLoose H ε n = false by simp [isLoose, h5, g2])
    clear h1 h2 h3 h4 h5 h6 h7 h8 hl1 g1 g2 S hkl hz hz2 v1 v2 v3 hFF hll hsm
    go_enter Try.func50, Try.ntmps50
    go_wp2
    go_returns
    refine ⟨⟨_, rfl⟩, ?_, Nat.le_refl _, fun k o hk _ _ => hk, fun k _ _ => rfl⟩
    rw [HN.out]; exact hS.out
  · rw [g1] at hl1
    have hl2 : (Instr.lookup 72 (.map (some ma)) (.int .i64 n) false).run Try.prog W = .ok (.pointer (some ⟨p.b, 0, none⟩)) W := hl1
    by_cases hc : cnt (allVals H.objs) n + ε n = 0
    · have hs : (getL H.objs n).isSome = true := by rw [h5, g2]; rfl
      have HN := Lib.hid (show isLoose H ε n = true by simp [isLoose, hs, hc])
      rw [hc] at hr
      clear h1 h2 h3 h4 h5 h6 h7 h8 hl1 g0 g1 g2 S hkl hz hz2 v1 v2 v3 hFF hll hsm hc hp hs
      obtain ⟨i0, hi, iz0, iz1, iz2⟩ := info_parts info_int64
      go_enter Try.func50, Try.ntmps50
      go_wp2_with (at_builtin; (refine wpList_append_own_at _ rfl _ _ 36 rfl 0 2 i0 _ 1 8 Try.underlying36 hi iz0 iz1 iz2 rfl (by decide) _ l.length (l.flatMap intCell) rfl (HV.out.2.1.alloc _) ⟨W.heap.size, 0, none⟩ 1 1 (intCell n) rfl rfl ?c1 ?c2 ?c3 ?c4 ?c5 ?_))
      case c1 =>
        intro j u hu
        have hadd : (⟨W.heap.size, 0, none⟩ : Addr).add j = ⟨W.heap.size, j, none⟩ := by unfold Addr.add; split <;> simp_all
        rw [hadd, cell_of_row _ _ _ _ _ _ (heapAllocNew W _)]
        simpa [intCell] using hu
      case c2 => intro u hu; simp [intCell] at hu; subst hu; rfl
      case c3 => have := HL.out; exact Nat.le_trans (show l.length + 1 ≤ 4000000001 by omega) (by decide)
      case c4 => have := HL.out; omega
      case c5 => exact Nat.zero_le _
      intro v' w4 hown' hgrow hnil hat
      obtain ⟨va', vcap', hv'⟩ := ownsRow_form hown'
      subst hv'
      have HI := Lib.hid (And.intro hown' (And.intro hgrow hat))
      obtain ⟨v1, v2, v3⟩ := HV.out
      have hne : some bw ≠ (Value.slice va l.length vcap).ownBlock := v1.not_row (by decide) v2
      have e1 := ((v1.alloc _).kept hgrow hne)
      have e2 := e1.cell
      have e3 := e1.frozen
      have HE := Lib.hid (And.intro e1 hne)
      clear hown' hgrow hnil hat e1 hne v1 v2 v3
      go_wp2
      go_returns
      obtain ⟨hown, hgrow, hat⟩ := HI.out
      obtain ⟨v1, v2, v3⟩ := HV.out
      obtain ⟨e1, hne⟩ := HE.out
      refine ⟨⟨_, rfl⟩, ?_⟩
      rw [HN.out, if_pos rfl]
      exact look_shut hF hS.out hbw hbh hbh2 v1 v2 v3 e1 hne hown hgrow (by simpa using hat)
    · have hc' : ((cnt (allVals H.objs) n + ε n) == 0) = false := by simp [hc]
      have HN := Lib.hid (show isLoose H ε n = false by simp [isLoose, hc])
      clear h1 h2 h3 h4 h5 h6 h7 h8 hl1 g0 g1 g2 S hkl hz hz2 v1 v2 v3 hFF hll hsm hc hp
      go_enter Try.func50, Try.ntmps50
      go_wp2
      go_returns
      refine ⟨⟨_, rfl⟩, ?_, Nat.le_refl _, fun k o hk _ _ => hk, fun k _ _ => rfl⟩
      rw [HN.out]; exact hS.out
end Go.Proofs.Ytoancpjlkhijiaa
