/- The heap: an object's values. -/
import Derived.Test.YtoancpjlkhijiaaHeap8
import Derived.Test.YtoancpjlkhijiaaDict11
namespace Go.Proofs.Ytoancpjlkhijiaa
open Go.RowKit
set_option linter.unusedVariables false
attribute [local go_sem] Oper.semAt_some
def ValsPost (o : ObjM) (w : World) (e : Ending) (w' : World) : Prop := ∃ sv, e = .returned sv ∧ slIs w' 26 3 V.cells sv o.vals ∧ (∀ b, sv.ownBlock = some b → w.heap.size ≤ b) ∧ Below w.heap.size w w'
set_option maxHeartbeats 400000 in
theorem heap_values (w : World) (b d : Nat) (rv : Value) (G : List Nat) (o : ObjM) (ho : w.heap[b]? = some (objBlock o rv d)) (hi : slIs w 26 3 V.cells rv o.items) (hd : DictIs w d o.pairs G) (hlen : o.items.length ≤ 4194304) :
    Calls Try.prog 73 #[.pointer (some ⟨b, 0, none⟩)] w (ValsPost o w) := by
  have hL4 : o.pairs.length ≤ 4096 := by obtain ⟨m, rv, rows, tb, hd, hm, hr, hL, hn, hat, hlen, rfl, hnd, h4, h5⟩ := hd; exact h4
  have k3 : w.cell? ⟨b, 3, none⟩ = some rv := by unfold objBlock at ho; exact cellAt ho 3 rfl
  have k4 : w.cell? ⟨b, 4, none⟩ = some (.pointer (some ⟨d, 0, none⟩)) := by unfold objBlock at ho; exact cellAt ho 4 rfl
  have blt := blockLt ho
  have HCL := Lib.hid (clone_vals w rv o.items hi.sees' hlen)
  clear ho hi
  refine (callsIn_wide (n := 9)).1 ?_
  refine callsIn_of_wp_marks Try.func73 rfl trivial ?_ rfl
  simp only [Try.ntmps73, List.size_toArray, List.length_cons, List.length_nil, Nat.reduceAdd, Nat.reduceSub, Array.replicate_succ, Array.replicate_zero, List.push_toArray, List.append_toArray, List.nil_append, List.cons_append]
  gi_wp2_with fail
  refine ⟨trivial, (callsIn_wide.2 HCL.out).mono ?_⟩
  rintro e w1 ⟨cv, rfl, hs, hcf, hb1⟩
  have c4 := cellBelow k4 hb1
  have blt1 : b < w1.heap.size := Nat.lt_of_lt_of_le blt hb1.size
  obtain ⟨ca, ccap, rfl⟩ := hs.form
  gi_wp2_with fail
  refine ⟨trivial, (callsIn_wide.2 (dict_all _ _)).mono ?_⟩
  rintro e w' ⟨rfl, rfl⟩
  gi_wp2_with fail
  obtain ⟨B, hB⟩ : ∃ B, w1.heap.size = B := ⟨_, rfl⟩
  have hwB : w.heap.size ≤ B := by rw [← hB]; exact hb1.size
  obtain ⟨W0, hW0⟩ : ∃ W0, ((w1.alloc (Obj.cells #[Value.slice ca o.items.length ccap] 22)).alloc (Obj.cells #[.pointer (some ⟨d, 0, none⟩)] 79)) = W0 := ⟨_, rfl⟩
  rw [hW0, hB]
  have z0 : W0.heap.size = B + 2 := by rw [← hW0]; simp [hB]
  have b10 : Below w1.heap.size w1 W0 := by
    rw [← hW0]
    exact ((Below.refl _ _).alloc (Nat.le_refl _) _).alloc (by simp) _
  have b0 : Below w.heap.size w W0 := Below.next hb1 b10 hb1.size
  have c0 : Boxed W0 B 22 (.slice ca o.items.length ccap) := by rw [← hW0, ← hB]; exact (Boxed.new w1 _ _).alloc _
  have c1 : Boxed W0 (B + 1) 79 (.pointer (some ⟨d, 0, none⟩)) := by
    rw [← hW0, ← hB]; have := Boxed.new (w1.alloc (Obj.cells #[Value.slice ca o.items.length ccap] 22)) 79 (.pointer (some ⟨d, 0, none⟩))
    rwa [World.size_alloc] at this
  have hs0 : slIs W0 26 3 V.cells (.slice ca o.items.length ccap) o.items := hs.of_block fun g hg => b10.block g (hs.lt g hg)
  have hcB : ∀ g, (Value.slice ca o.items.length ccap).ownBlock = some g → w.heap.size ≤ g ∧ (g < B ∨ B + 4 ≤ g) := fun g hg => ⟨hcf g hg, .inl (by rw [← hB]; exact hs.lt g hg)⟩
  have hD := hd.below b0
  clear hW0 hd hB hcf hs HCL k3 k4 c4 b10
  refine range_lawA (B := B + 2) z0 (hg := rfl) enters_all (fun _ => rfl) (CollI w B (fun k => o.items ++ (o.pairs.take k).map (·.2)) (B + 4)) (fun _ _ _ => False) (n := o.pairs.length) (St := StB) (Kp := KpR)
    (encs := pairEnc o.pairs) ?iter ?st (fun k W W' h1 h2 => h1.st h2) (fun _ _ _ _ h _ => h) ?put (fun _ _ _ _ _ h _ => h) ?kt ?kput ?start
    (fun k W => { tmps := #[.pointer (some ⟨b, 0, none⟩), undef, .slice none 0 0, .pointer (some ⟨B, 0, none⟩), undef, .pointer (some ⟨W.heap.size, 0, none⟩), .pointer (some ⟨b, 0, none⟩), .pointer (some ⟨b, 0, none⟩), .pointer (some ⟨b, 3, none⟩), rv, .slice ca o.items.length ccap,
      .pointer (some ⟨b, 0, none⟩), .pointer (some ⟨b, 0, none⟩), .pointer (some ⟨b, 4, none⟩), .pointer (some ⟨d, 0, none⟩), .func (.func 92) #[] #[.pointer (some ⟨B + 1, 0, none⟩)], (keyK o.pairs k).val, (valK o.pairs k).val, undef, undef, undef, undef, undef], defers := [] })
    (fun k W => W.alloc (.cells #[.int .i64 (valK o.pairs k).kind, .int .i64 (valK o.pairs k).n, .string (valK o.pairs k).s] 26)) (fun k W _ => (Below.refl _ _).alloc (Nat.le_refl _) _) ?ka ?assign ?body ?done (fun _ _ _ _ h _ => h.elim)
  case assign =>
    intro l k W K hk hK
    simp only [V.val] at hK
    simp only [pairEnc, V.val]
    gi_wp2
    exact hK
  case iter =>
    intro r
    have hb : Below W0.heap.size W0 ((W0.alloc (.deferred (some []))).alloc (.loop r)) := ((Below.refl _ _).alloc (Nat.le_refl _) _).alloc (by simp) _
    exact dict_iter _ d (B + 1) o.pairs G (hD.below hb) ((c1.alloc _).alloc _).cell
  case st => exact fun W W' h o => ⟨fun hb => h.keeps hb, fun hb => h.keeps hb⟩
  case put => exact fun k W r r0 h hl => h.put hl (by omega)
  case ka => exact fun k W _ => KpR.alloc W _
  case kt => exact fun X Y Z h1 h2 => h1.trans h2
  case kput => exact fun W r r0 hl => KpR.put hl
  case start =>
    intro r
    refine ⟨_, (c0.alloc _).alloc _, ?_, hcB, (b0.alloc b0.size _).alloc (by simp; have := b0.size; omega) _, by simp; omega⟩
    have := (hs0.alloc (.deferred (some []))).alloc (.loop r)
    simpa using this
  case body =>
    rintro l k W0 W hk hl' ⟨v, d1, d2, d3, d4, d5⟩ hz hz0 ⟨r, hW⟩
    have hbx : W.heap[W0.heap.size]? = some (.cells #[.int .i64 (valK o.pairs k).kind, .int .i64 (valK o.pairs k).n, .string (valK o.pairs k).s] 26) := by
      rw [hW, World.putObj_heap_other (by omega)]; exact heapAllocNew _ _
    have hWsz : W.heap.size = W0.heap.size + 1 := by rw [hW]; simp
    have hlk : (o.items ++ List.map (·.2) (List.take k o.pairs)).length ≤ 4200000 := by rw [List.length_append, List.length_map, List.length_take]; omega
    have hks : o.items ++ List.map (·.2) (List.take (k + 1) o.pairs) = (o.items ++ List.map (·.2) (List.take k o.pairs)) ++ [valK o.pairs k] := by
      rw [List.take_add_one, List.map_append]; simp [valK, hk]
    replace d2 : slIs W 26 3 V.cells v (o.items ++ List.map (·.2) (List.take k o.pairs)) := d2
    generalize hxs : o.items ++ List.map (·.2) (List.take k o.pairs) = xs at *
    obtain ⟨va, vcap, rfl⟩ := d2.form
    obtain ⟨i0, hi, iz0, iz1, iz2⟩ := info_parts info_val
    have HLK := Lib.hid hlk
    have HKS := Lib.hid hks
    obtain ⟨kx, hkx⟩ : ∃ kx, valK o.pairs k = kx := ⟨_, rfl⟩
    rw [hkx] at HKS hbx
    have q0 := d1.cell
    obtain ⟨p0, p1, p2, p3, p4, p5⟩ := valBlk hbx
    have HB := Lib.hid hbx
    have HZ := Lib.hid hWsz
    have D3 := Lib.hid d3
    have hlt0 : W0.heap.size < W.heap.size := by omega
    clear hW hks hlk hbx hWsz z0 hl' hxs c0 c1 hs0 hcB hD
    simp only [V.val, hkx]
    clear hkx
    gi_wp2_with (gi_at_builtin; (refine wpListIn_append_own_at _ rfl _ _ 22 rfl 0 26 i0 _ 3 32 Try.underlying22 hi iz0 iz1 iz2 rfl (by decide) _ xs.length (xs.flatMap V.cells) rfl (d2.alloc _) ⟨W.heap.size, 0, none⟩ 1 1 kx.cells rfl rfl ?c1 ?c2 ?c3 ?c4 ?c5 ?_))
    case c1 =>
      intro j u hu
      have hadd : (⟨W.heap.size, 0, none⟩ : Addr).add j = ⟨W.heap.size, j, none⟩ := by unfold Addr.add; split <;> simp_all
      rw [hadd, cell_of_row _ _ _ _ _ _ (heapAllocNew W _)]
      simpa [V.cells] using hu
    case c2 => intro u hu; simp [V.cells] at hu; rcases hu with rfl | rfl | rfl <;> rfl
    case c3 => have := HLK.out; exact Nat.le_trans (show xs.length + 1 ≤ 4200001 by omega) (by decide)
    case c4 => have := HLK.out; omega
    case c5 => exact Nat.zero_le _
    intro v' w1 hown' hgrow hnil hat
    obtain ⟨va', vcap', hv'⟩ := ownsRow_form hown'
    subst hv'
    obtain ⟨hb1, M, hs', hfr'⟩ := coll_round (w := w) d1 d2 hwB d3 d5 d4 hown' hgrow (by simpa using hat)
    have e0 := hb1.cell
    have e1 := hb1.frozen
    have HM := Lib.hid M
    clear hown' hgrow hnil hat M hb1 d1 d2
    have hd3 := D3.out
    gi_wp2
    have M := HM.out
    have hnB : ∀ j, j = B + 2 ∨ j = B + 3 → some j ≠ (Value.slice va xs.length vcap).ownBlock := by
      intro j hj e
      have := (hd3 j e.symm).2
      omega
    refine ⟨⟨M.other _ (by omega) (by omega) (hnB _ (.inl rfl)), M.other _ (by omega) (by omega) (hnB _ (.inr rfl))⟩, M.kp, _, M.box, ?_, hfr', M.below, Nat.le_trans d5 M.kp.1⟩
    show slIs _ _ _ _ _ (o.items ++ List.map (·.2) (List.take (k + 1) o.pairs))
    rw [HKS.out]; exact hs'
  case done =>
    rintro W ⟨v, d1, d2, d3, d4, d5⟩ hK
    replace d2 : slIs W 26 3 V.cells v (o.items ++ List.map (·.2) (List.take o.pairs.length o.pairs)) := d2
    rw [List.take_length] at d2
    replace d2 : slIs W 26 3 V.cells v o.vals := d2
    obtain ⟨va, vcap, rfl⟩ := d2.form
    have q0 := d1.cell
    clear z0 hD c0 c1 hs0 hcB
    gi_wp2
    refine ⟨by simp, .inl ⟨_, _, rfl, run_takeDeferred hK, ?_⟩⟩
    refine ⟨.slice va o.vals.length vcap, by simp [results, Try.results73, go_sem], _, rfl, ?_, fun b hb => (d3 b (by simpa using hb)).1, ?_⟩
    · exact d2.of_block (w' := W.putObj (B + 2) (.deferred none)) (fun g hg => World.putObj_heap_other (by have := (d3 g hg).2; omega))
    · exact d4.trans ⟨rfl, rfl, rfl, by simp, fun j hj => World.putObj_heap_other (by omega)⟩
end Go.Proofs.Ytoancpjlkhijiaa
