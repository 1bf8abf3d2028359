/- The heap: Size, Count, Items; SetNum. -/
import Derived.Test.YtoancpjlkhijiaaHeap7
namespace Go.Proofs.Ytoancpjlkhijiaa
open Go.RowKit
set_option linter.unusedVariables false
section
variable {w : World} {h : Nat} {H : HeapM} {ε : Int → Int} {F : List Nat} {v : V} {o : ObjM} {ma mr b d : Nat} {rv : Value} {G : List Nat} {obs : List (Int × Nat)} {r : List (Int × Int)}
theorem OpenAt.counts (O : OpenAt w h H ε F v o ma mr b d rv G obs r) (o' : ObjM) {r' : List (Int × Int)} {ε' : Int → Int} (hr : ∀ n, cntL r' n = wrap64 (cnt (allVals H.objs) n - cnt o.vals n + cnt o'.vals n + ε' n)) : CountsAre (H.set v.n o') ε' r' := by
  intro n
  rw [hr, HeapM.set, cnt_setL O.nk (HeapM.of_some O.hg).2]
end
theorem heap_size (w : World) (h : Nat) (v : V) {H : HeapM} {ε : Int → Int} {F : List Nat} (hh : HeapIs w h H ε F) :
    Calls Try.prog 38 #[.pointer (some ⟨h, 0, none⟩), v.val] w fun e w' => e = .returned (.int .i64 (H.pairs v).length) ∧ Below w.heap.size w w' := by
  cases g : H.of v with
  | none =>
    have HO := Lib.hid (hh.of_none g)
    have HE := Lib.hid (show (.int .i64 (H.pairs v).length : Value) = .int .i64 0 by simp [HeapM.pairs, g])
    clear hh g
    rw [HE.out]
    simp only [V.val] at HO ⊢
    go_enter Try.func38, Try.ntmps38
    go_wp2_with (go_at_call 45; refine (HO.out _ (by below_tac)).mono ?_; rintro e w1 ⟨rfl, hb1⟩)
    go_ret
    exact ⟨rfl, by below_by hb1⟩
  | some o =>
    obtain ⟨ma, mr, b, d, rv, G, obs, r, O⟩ := hh.open g
    have HO := Lib.hid O.of
    have HK := Lib.hid O.cells
    have HE := Lib.hid (show (.int .i64 (H.pairs v).length : Value) = .int .i64 o.pairs.length by simp [HeapM.pairs, g])
    have HD := Lib.hid (fun W (hW : Below w.heap.size w W) => dict_len W d o.pairs G (O.hdict.below hW))
    clear hh g O
    rw [HE.out]
    simp only [V.val] at HO ⊢
    go_enter Try.func38, Try.ntmps38
    go_wp2_with (go_at_call 45; refine (HO.out _ (by below_tac)).mono ?_; rintro e w1 ⟨rfl, hb1⟩; have hB : Below w.heap.size w w1 := (by below_by hb1); obtain ⟨k0, k1, k2, k3, k4⟩ := HK.out _ hB)
    go_wp2_with (go_at_call 76; refine (HD.out _ (by below_tac)).mono ?_; rintro e w2 ⟨rfl, rfl⟩)
    go_ret
    exact ⟨rfl, hB⟩
theorem heap_count (w : World) (h : Nat) (v : V) {H : HeapM} {ε : Int → Int} {F : List Nat} (hh : HeapIs w h H ε F) :
    Calls Try.prog 31 #[.pointer (some ⟨h, 0, none⟩), v.val] w fun e w' => e = .returned (.int .i64 (if (H.of v).isSome then wrap64 (cnt (allVals H.objs) v.n + ε v.n) else 0)) ∧ Below w.heap.size w w' := by
  cases g : H.of v with
  | none =>
    have HO := Lib.hid (hh.of_none g)
    clear hh g
    simp only [V.val, Option.isSome_none, Bool.false_eq_true, if_false] at HO ⊢
    go_enter Try.func31, Try.ntmps31
    go_wp2_with (go_at_call 45; refine (HO.out _ (by below_tac)).mono ?_; rintro e w1 ⟨rfl, hb1⟩)
    go_ret
    exact ⟨rfl, by below_by hb1⟩
  | some o =>
    obtain ⟨ma, mr, b, d, rv, G, obs, r, O⟩ := hh.open g
    have HO := Lib.hid O.of
    have HK := Lib.hid O.cells
    obtain ⟨kl, hkl⟩ := keyOfI v.hn
    have hz : ∀ W, (zeroValue 3).run Try.prog W = .ok (.int .i64 0) W := fun W => Try.zeroValue3 W
    have c1 := cellAt O.hd 1 (v := .map (some mr)) rfl
    have HR := Lib.hid (fun W n (hW : Below w.heap.size w W) => show (Instr.lookup 73 (.map (some mr)) (.int .i64 v.n) false).run Try.prog (W.drewN n) = .ok (.int .i64 (wrap64 (cnt (allVals H.objs) v.n + ε v.n))) (W.drewN n) by
      have hmr : mapIs (W.drewN n) Try.prog 2 ekI exI mr r := (O.hr.of_block (hW.block _ O.hr.lt)).drewN n
      have := hmr.look ekI_inj keyI Try.underlying73 (hz _) hkl false
      rw [← O.hc v.n, cntL]
      cases hg : getL r v.n with
      | none => rw [hg] at this; exact this
      | some x => rw [hg] at this; exact this)
    have HC := Lib.hid (fun W (hW : Below w.heap.size w W) => cellBelow c1 hW)
    have hhlt := World.block_lt_of_cell? w _ c1
    generalize wrap64 (cnt (allVals H.objs) v.n + ε v.n) = c at HR ⊢
    clear hh g O hz hkl c1
    simp only [V.val, Option.isSome_some, if_true] at HO ⊢
    go_enter Try.func31, Try.ntmps31
    go_wp2_with (go_at_call 45; refine (HO.out _ (by below_tac)).mono ?_; rintro e w1 ⟨rfl, hb1⟩; have hB : Below w.heap.size w w1 := (by below_by hb1); obtain ⟨k0, k1, k2, k3, k4⟩ := HK.out _ hB; have hc1 := HC.out _ hB; obtain ⟨hc, hf⟩ := bcell hb1; have hrun := fun n => HR.out _ n hB)
    go_quiet (fail)
    go_wp2
    go_ret
    exact ⟨rfl, by below_tac⟩
theorem heap_items (w : World) (h : Nat) (v : V) {H : HeapM} {ε : Int → Int} {F : List Nat} (hh : HeapIs w h H ε F) (hlen : (H.items v).length ≤ 4194304) :
    Calls Try.prog 15 #[.pointer (some ⟨h, 0, none⟩), v.val] w fun e w' => ∃ sv, e = .returned sv ∧ slIs w' 26 3 V.cells sv (H.items v) ∧ (∀ b, sv.ownBlock = some b → w.heap.size ≤ b) ∧ Below w.heap.size w w' := by
  cases g : H.of v with
  | none =>
    have HO := Lib.hid (hh.of_none g)
    have HE := Lib.hid (show H.items v = [] by simp [HeapM.items, g])
    clear hh g hlen
    rw [HE.out]
    simp only [V.val] at HO ⊢
    go_enter Try.func15, Try.ntmps15
    go_wp2_with (go_at_call 45; refine (HO.out _ (by below_tac)).mono ?_; rintro e w1 ⟨rfl, hb1⟩)
    go_ret
    exact ⟨_, rfl, World.ownsRow_nil _ _ _ _, by simp [Value.ownBlock], by below_by hb1⟩
  | some o =>
    obtain ⟨ma, mr, b, d, rv, G, obs, r, O⟩ := hh.open g
    have HO := Lib.hid O.of
    have HK := Lib.hid O.cells
    have HE := Lib.hid (show H.items v = o.items by simp [HeapM.items, g])
    rw [HE.out] at hlen ⊢
    have HD := Lib.hid (fun W (hW : Below w.heap.size w W) => clone_vals W rv o.items ((O.hi.sees').keep fun p v hp => cellBelow hp hW) hlen)
    clear hh g O
    simp only [V.val] at HO ⊢
    go_enter Try.func15, Try.ntmps15
    go_wp2_with (go_at_call 45; refine (HO.out _ (by below_tac)).mono ?_; rintro e w1 ⟨rfl, hb1⟩; have hB : Below w.heap.size w w1 := (by below_by hb1); obtain ⟨k0, k1, k2, k3, k4⟩ := HK.out _ hB)
    go_wp2_with (go_at_call 48; refine (HD.out _ (by below_tac)).mono ?_; rintro e w2 ⟨sv, rfl, hs, hsn, hb2⟩)
    go_ret
    exact ⟨_, rfl, hs, fun b hb => Nat.le_trans hB.size (hsn b hb), Below.next hB hb2 hB.size⟩
theorem heap_setNum (w : World) (h : Nat) (v : V) (n : Int) (hn : okI n) {H : HeapM} {ε : Int → Int} {F : List Nat} (hh : HeapIs w h H ε F) :
    Calls Try.prog 36 #[.pointer (some ⟨h, 0, none⟩), v.val, .int .i64 n] w fun e w' => e = .returned (.bool (H.of v).isSome) ∧
      ∃ F', HeapIs w' h (match H.of v with | some o => H.set v.n { o with num := n, hn := hn } | none => H) ε F' ∧ Grow F F' w ∧ Outside F w w' := by
  cases g : H.of v with
  | none =>
    have HO := Lib.hid (hh.of_none g)
    have HH := Lib.hid hh
    clear hh g
    simp only [V.val, Option.isSome_none] at HO ⊢
    go_enter Try.func36, Try.ntmps36
    go_wp2_with (go_at_call 45; refine (HO.out _ (by below_tac)).mono ?_; rintro e w1 ⟨rfl, hb1⟩; have hB : Below w.heap.size w w1 := (by below_by hb1))
    go_ret
    exact ⟨rfl, F, HH.out.below hB, Grow.refl _ _, Outside.of_below hB _⟩
  | some o =>
    obtain ⟨ma, mr, b, d, rv, G, obs, r, O⟩ := hh.open g
    have HO := Lib.hid O.of
    have HK := Lib.hid O.cells
    have OO := Lib.hid O
    have hf : ∀ W, Below w.heap.size w W → W.frozen? ⟨b, 2, none⟩ = false := fun W hW => frozenAt (blockBelow O.ho hW) 2
    have HF := Lib.hid hf
    clear hh g O hf
    simp only [V.val, Option.isSome_some] at HO ⊢
    go_enter Try.func36, Try.ntmps36
    go_wp2_with (go_at_call 45; refine (HO.out _ (by below_tac)).mono ?_; rintro e w1 ⟨rfl, hb1⟩; have hB : Below w.heap.size w w1 := (by below_by hb1); obtain ⟨k0, k1, k2, k3, k4⟩ := HK.out _ hB; have f2 := HF.out _ hB)
    go_ret
    refine ⟨rfl, ?_⟩
    have O := OO.out
    have hblk : w1.heap[b]? = some (objBlock o rv d) := blockBelow O.ho hB
    have hset := heap_setCell_same hblk 2 (.int .i64 n)
    have hout : Outside [b] w (w1.setCell ⟨b, 2, none⟩ (.int .i64 n)) := (Outside.of_below hB _).setCell (.inl (by simp)) _
    have hne := O.nd
    refine O.shut _ { o with num := n, hn := hn } rv G r ε (by exact hset) (O.hi.of_block fun g hg => ?_) (O.hdict.outside hout ?_) (O.hr.of_block ?_) (O.counts _ fun m => ?_) ?_ (Grow.refl _ _) (hout.mono (by simp))
    · refine hout.block g (O.hi.lt g hg) ?_
      intro e; simp at e; subst e
      simp only [List.cons_append, List.nodup_cons, List.mem_append, Option.mem_toList] at hne
      exact hne.2.2.2.1 (.inl hg)
    · intro x hx e; simp at e; subst e
      simp only [List.cons_append, List.nodup_cons, List.mem_append] at hne
      exact hne.2.2.2.1 (.inr hx)
    · refine hout.block mr O.hr.lt ?_
      intro e; simp at e; subst e
      simp at hne
    · rw [O.hc m]
      congr 1
      have : cnt ({ o with num := n, hn := hn } : ObjM).vals m = cnt o.vals m := rfl
      omega
    · simp only [List.nodup_cons] at hne; simpa using hne.2.2.2
end Go.Proofs.Ytoancpjlkhijiaa
