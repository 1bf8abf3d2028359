/- The reference's heap: Del; Make of no kind. -/
import Derived.Test.YtijlebhoapdfnaaGreatRef7
import Derived.IntWalk
set_option maxRecDepth 100000
set_option maxHeartbeats 3200000
namespace Go.Proofs.YtijlebhoapdfnaaGreat
set_option linter.unusedSimpArgs false
open Go.RowKit
set_option linter.unusedVariables false
theorem pair_one (p : V × V) : ∀ u ∈ pairCells p, u.oneCell' = true := by intro u hu; simp [pairCells, V.cells] at hu; rcases hu with rfl | rfl | rfl | rfl | rfl | rfl <;> rfl
section
variable {w W : World} {Rs : List Res}
theorem rdict_del (S : Sep w Rs W) (i j : Nat) {b : Nat} {n : Int} {o : ObjM} {iv dv : Value} (hij : i ≠ j) (hi : Rs[i]? = some (boxR b (robj n o iv dv))) (hj : Rs[j]? = some (pairsR dv o.pairs)) (hP : PairsOk o.pairs) (k : V) :
  Calls Tryz.prog 158 #[.pointer (some ⟨b, 5, none⟩), k.val] W fun e W' => e = .returned (.bool (getL o.pairs k).isSome) ∧ ∃ dv', Sep w ((Rs.set i (boxR b (robj n o iv dv'))).set j (pairsR dv' (delL o.pairs k))) W' := by
 have hb := S.box i hi
 have hrow := S.row j hj
 have c0 := cellAt hb 5 (v := dv) rfl
 have CA := Lib.hid (fun W1 (hb1 : Below W.heap.size W W1) => rdict_at W1 b 5 k dv o.pairs (cellBelow c0 hb1) (hrow.of_block fun g hg => hb1.block g (hrow.lt g hg)))
 have HS := Lib.hid S
 have hblt := blockLt hb
 rcases keyAt_cases o.pairs k with ⟨hk, hg⟩ | ⟨m, x0, hk, hm, hg⟩
 ·
  have hd : delL o.pairs k = o.pairs := by
   refine List.filter_eq_self.2 fun p hp => ?_
   have := getL_none.1 hg p hp
   simpa using this
  rw [hg, hd]
  rw [hk] at CA
  have same : Hid (∀ W1, Below W.heap.size W W1 → Sep w ((Rs.set i (boxR b (robj n o iv dv))).set j (pairsR dv o.pairs)) W1) := Lib.hid fun W1 hb1 => by
   have h2 : (Rs.set i (boxR b (robj n o iv dv))).set j (pairsR dv o.pairs) = Rs := by
    rw [Sep.setSame hi, Sep.setSame hj]
   rw [h2]; exact HS.out.later hb1
  clear hk hg hd c0 hrow hb hi hj S
  simp only [V.val] at CA ⊢
  go_enter Tryz.func158, Tryz.ntmps158
  go_wp2_with fail
  refine (CA.out _ belowA).mono ?_
  rintro e w1 ⟨rfl, hb1⟩
  have hB1 := Lib.hid (show Below W.heap.size W w1 by exact Below.next belowA hb1 (by (try simp only [World.size_alloc, size_drew, size_drewN, size_setCell]); omega))
  clear hb1
  go_wp2
  go_ret
  exact ⟨rfl, _, same.out _ hB1.out⟩
 ·
  have hd : delL o.pairs k = o.pairs.take m ++ o.pairs.drop (m + 1) := by rw [← erase_eq_filter hP.nd hm, List.eraseIdx_eq_take_drop_succ]
  rw [hg, hd]
  rw [hk] at CA
  have hml : m < o.pairs.length := (List.getElem?_eq_some_iff.1 hm).1
  have hlen := hP.len
  obtain ⟨da, dc, rfl⟩ := hrow.form
  have hcap := hrow.caps
  have hu : Tryz.prog.underlying 97 = some (.slice (Tryz.prog.elem 97)) := by kernel_rfl
  have hsz : ∀ W, (sizeOf (Tryz.prog.elem 97)).run Tryz.prog W = .ok 6 W := fun W => by kernel_rfl
  have SR := hrow.seesR pairCells_len
  obtain ⟨a2, ha2, -⟩ := SR.part (Nat.zero_le m) (Nat.le_of_lt hml) (Nat.le_trans (Nat.le_of_lt hml) hcap.2.1) (Nat.le_refl _)
  obtain ⟨a3, ha3, -⟩ := SR.part (show m + 1 ≤ o.pairs.length by omega) (Nat.le_refl _) hcap.2.1 (Nat.le_refl _)
  have et : (o.pairs.take m).length = m := by rw [List.length_take]; omega
  have ed : (o.pairs.drop (m + 1)).length = o.pairs.length - (m + 1) := by simp
  have s2 : ∀ W, (Instr.slice 97 (.slice da o.pairs.length dc) none (some (.int .i64 m)) none).run Tryz.prog W = .ok (.slice a2 (o.pairs.take m).length dc) W := fun W => by
   rw [run_slice_h W _ _ _ _ hu _ _ (by omega) (by omega), hsz, et]
   exact congrArg (fun x => Result.ok x W) ha2
  have s3 : ∀ W, (Instr.slice 97 (.slice da o.pairs.length dc) (some (.int .i64 ((m : Int) + 1))) none none).run Tryz.prog W = .ok (.slice a3 (o.pairs.drop (m + 1)).length (dc - (m + 1))) W := fun W => by
   rw [show (m : Int) + 1 = ((m + 1 : Nat) : Int) by omega]
   rw [run_slice_l W _ _ _ _ hu _ _ (by omega) (by omega), hsz, ed]
   exact congrArg (fun x => Result.ok x W) ha3
  have SE2 : ∀ W1, slIs W1 180 6 pairCells (.slice da o.pairs.length dc) o.pairs → SeesR pairCells 6 W1 (.slice a2 (o.pairs.take m).length dc) (o.pairs.take m) := fun W1 h => by
   obtain ⟨a', ha', se⟩ := (h.seesR pairCells_len).part (Nat.zero_le m) (Nat.le_of_lt hml) (Nat.le_trans (Nat.le_of_lt hml) hcap.2.1) (Nat.le_refl _)
   rw [ha2] at ha'
   cases ha'
   rw [et]; simpa using se
  have SE3 : ∀ W1, slIs W1 180 6 pairCells (.slice da o.pairs.length dc) o.pairs → SeesR pairCells 6 W1 (.slice a3 (o.pairs.drop (m + 1)).length (dc - (m + 1))) (o.pairs.drop (m + 1)) := fun W1 h => by
   obtain ⟨a', ha', se⟩ := (h.seesR pairCells_len).part (show m + 1 ≤ o.pairs.length by omega) (Nat.le_refl _) hcap.2.1 (Nat.le_refl _)
   rw [ha3] at ha'
   cases ha'
   rw [ed]
   rw [List.take_of_length_le (by simp)] at se
   exact se
  obtain ⟨l1, hl1⟩ : ∃ l, o.pairs.take m = l := ⟨_, rfl⟩
  obtain ⟨l2, hl2⟩ : ∃ l, o.pairs.drop (m + 1) = l := ⟨_, rfl⟩
  have hll : l1.length ≤ 4096 ∧ l2.length ≤ 4096 := by rw [← hl1, ← hl2]; constructor <;> simp <;> omega
  rw [hl1] at s2 SE2 ⊢
  rw [hl2] at s3 SE3 ⊢
  have S1 := Lib.hid (S.alloc (valObj k))
  have hml' : (m : Int) ≤ 4096 := by omega
  have HX := Lib.hid (And.intro hi (And.intro hj (And.intro hij (And.intro hll (And.intro SE2 SE3)))))
  clear hk hg hd c0 hrow hb hi hj S hm SR ha2 ha3 et ed hl1 hl2 hu hsz hcap hll SE2 SE3 hml
  simp only [V.val] at CA ⊢
  go_enter Tryz.func158, Tryz.ntmps158
  go_wp2_with fail
  refine (CA.out _ belowA).mono ?_
  rintro e w1 ⟨rfl, hb1⟩
  have T0 := (S1.out.later hb1).drew
  clear hb1 S1 HS
  go_upto_region 4 with fail
  have T1 := T0.madeRow pairCells 6 180
  have hz1 : w1.drew.heap.size = w1.heap.size := rfl
  rw [hz1] at T1
  obtain ⟨hi, hj, hij, hll, SE2, SE3⟩ := HX.out
  obtain ⟨va, vc, wA, hap1, T2⟩ := run_append_rows (f := pairCells) (m := 6) 97 180 97 Tryz.underlying97 _ 64 info_rpair rfl (by decide) (by decide) pairCells_len pair_one T1 0 rfl _ l1 (SE2 _ (T1.row (j + 2) hj)) (by simp; omega)
  obtain ⟨vb, vd, wB, hap2, T3⟩ := run_append_rows (f := pairCells) (m := 6) 97 180 97 Tryz.underlying97 _ 64 info_rpair rfl (by decide) (by decide) pairCells_len pair_one T2 0 rfl _ l2 (SE3 _ (T2.row (j + 2) hj)) (by simp; omega)
  have HS0 : w1.drew.cell? ⟨b, 5, none⟩ = some (.slice da o.pairs.length dc) := cellAt (T0.box (i + 1) hi) 5 rfl
  have HS1 : (w1.drew.alloc (.cells #[] 180)).cell? ⟨b, 5, none⟩ = some (.slice da o.pairs.length dc) := cellAt (T1.box (i + 2) hi) 5 rfl
  have HS2 : wA.cell? ⟨b, 5, none⟩ = some (.slice da o.pairs.length dc) := cellAt (T2.box (i + 2) hi) 5 rfl
  have HS3 : wB.cell? ⟨b, 5, none⟩ = some (.slice da o.pairs.length dc) := cellAt (T3.box (i + 2) hi) 5 rfl
  have z5 := frozenAt (T3.box (i + 2) hi) 5
  have hbw : b < w1.heap.size := World.block_lt_of_cell? _ _ HS0
  have hbwB : b < wB.heap.size := World.block_lt_of_cell? _ _ HS3
  have T4 := T3.setBox (cs := #[.int .i64 n, .int .i64 o.kind, .string o.name, .int .i64 o.num, iv, .slice da o.pairs.length dc]) (t := 101) (i + 2) hi 5 (.slice vb (l1.length + l2.length) vd)
  have FIN : Hid (Sep w ((Rs.set i (boxR b (robj n o iv (.slice vb (l1.length + l2.length) vd)))).set j (pairsR (.slice vb (l1.length + l2.length) vd) (l1 ++ l2))) (wB.setCell ⟨b, 5, none⟩ (.slice vb (l1.length + l2.length) vd))) := Lib.hid (by
   have T5 : Sep w (pairsR (.slice vb (l1.length + l2.length) vd) (l1 ++ l2) :: boxR W.heap.size (valObj k) :: Rs.set i (boxR b (robj n o iv (.slice vb (l1.length + l2.length) vd)))) (wB.setCell ⟨b, 5, none⟩ (.slice vb (l1.length + l2.length) vd)) := T4
   exact Sep.into T5.swap.tail j (by rw [List.getElem?_set_ne hij]; exact hj))
  simp only [List.length_nil, Nat.zero_add, List.nil_append] at hap1 hap2
  have hsum : IntKind.i64.wrap ((m : Int) + 1) = (m : Int) + 1 := IntWalk.i64_in _ (by omega)
  have HAP8 := Lib.hid hap1
  have HAP16 := Lib.hid hap2
  clear T0 T1 T2 T3 T4 hap1 hap2 hi hj hij hll SE2 SE3 HX hz1
  refine wp_regionU 19 (fun w' => w'.cell? ⟨b, 5, none⟩ = some (.slice da o.pairs.length dc)) (by kernel_rfl) ?_
  refine wpAnyU_take 0 [] (v := _) (by simp only [List.getElem?_toArray, List.getElem?_cons_succ, List.getElem?_cons_zero]; rfl) (by kernel_rfl) (by kernel_rfl) (by kernel_rfl) (by kernel_rfl) (by kernel_rfl) (by exact fun _ _ _ h => h) (by rfl) (by (intro w hSw; try obtain s0 := hSw); (go_simp; try rfl)) HS0 ?_
  simp only [Act.put, List.setIfInBounds_toArray, List.set_cons_zero, List.set_cons_succ]
  refine wpAnyU_take 2 [] (v := _) (by simp only [List.getElem?_toArray, List.getElem?_cons_succ, List.getElem?_cons_zero]; rfl) (by kernel_rfl) (by kernel_rfl) (by kernel_rfl) (by kernel_rfl) (by kernel_rfl) (by exact fun _ _ _ h => h) (by rfl) (by (intro w hSw; try obtain s0 := hSw); (go_simp; try rfl)) HS0 ?_
  simp only [Act.put, List.setIfInBounds_toArray, List.set_cons_zero, List.set_cons_succ]
  refine wpAnyU_take 3 [] (v := _) (by simp only [List.getElem?_toArray, List.getElem?_cons_succ, List.getElem?_cons_zero]; rfl) (by kernel_rfl) (by kernel_rfl) (by kernel_rfl) (by kernel_rfl) (by kernel_rfl) (by exact fun _ _ _ h => h) (by rfl) (by (intro w hSw; try obtain s0 := hSw); (go_simp; try rfl)) HS0 ?_
  simp only [Act.put, List.setIfInBounds_toArray, List.set_cons_zero, List.set_cons_succ]
  refine wpAnyU_take 4 [] (v := _) (by simp only [List.getElem?_toArray, List.getElem?_cons_succ, List.getElem?_cons_zero]; rfl) (by kernel_rfl) (by kernel_rfl) (by kernel_rfl) (by kernel_rfl) (by kernel_rfl) (by exact fun _ _ _ h => h) (by rfl) (by (intro w hSw; try obtain s0 := hSw); (go_simp; try rfl)) HS0 ?_
  simp only [Act.put, List.setIfInBounds_toArray, List.set_cons_zero, List.set_cons_succ]
  refine wpAnyU_take 5 [] (v := _) (by simp only [List.getElem?_toArray, List.getElem?_cons_succ, List.getElem?_cons_zero]; rfl) (by kernel_rfl) (by kernel_rfl) (by kernel_rfl) (by kernel_rfl) (by kernel_rfl) (by exact fun _ _ _ h => h) (by rfl) (by (intro w hSw; try obtain s0 := hSw); (go_simp; try rfl)) HS0 ?_
  simp only [Act.put, List.setIfInBounds_toArray, List.set_cons_zero, List.set_cons_succ]
  refine wpAnyU_take 6 [] (v := _) (by simp only [List.getElem?_toArray, List.getElem?_cons_succ, List.getElem?_cons_zero]; rfl) (by kernel_rfl) (by kernel_rfl) (by kernel_rfl) (by kernel_rfl) (by kernel_rfl) (by exact fun _ _ _ h => h) (by rfl) (by (intro w hSw; try obtain s0 := hSw); (go_simp; try rfl)) HS0 ?_
  simp only [Act.put, List.setIfInBounds_toArray, List.set_cons_zero, List.set_cons_succ]
  refine wpAnyU_take 7 [] (v := _) (by simp only [List.getElem?_toArray, List.getElem?_cons_succ, List.getElem?_cons_zero]; rfl) (by kernel_rfl) (by kernel_rfl) (by kernel_rfl) (by kernel_rfl) (by kernel_rfl) (by exact fun _ _ _ h => h) (by rfl) (by (intro w hSw; try obtain s0 := hSw); (go_simp; try rfl)) HS0 ?_
  simp only [Act.put, List.setIfInBounds_toArray, List.set_cons_zero, List.set_cons_succ]
  refine wpAnyU_take 9 [] (v := _) (by simp only [List.getElem?_toArray, List.getElem?_cons_succ, List.getElem?_cons_zero]; rfl) (by kernel_rfl) (by kernel_rfl) (by kernel_rfl) (by kernel_rfl) (by kernel_rfl) (by exact fun _ _ _ h => h) (by rfl) (by (intro w hSw; try obtain s0 := hSw); (go_simp; try rfl)) HS0 ?_
  simp only [Act.put, List.setIfInBounds_toArray, List.set_cons_zero, List.set_cons_succ]
  refine wpAnyU_take 10 [] (v := _) (by simp only [List.getElem?_toArray, List.getElem?_cons_succ, List.getElem?_cons_zero]; rfl) (by kernel_rfl) (by kernel_rfl) (by kernel_rfl) (by kernel_rfl) (by kernel_rfl) (by exact fun _ _ _ h => h) (by rfl) (by (intro w hSw; try obtain s0 := hSw); (go_simp; try rfl)) HS0 ?_
  simp only [Act.put, List.setIfInBounds_toArray, List.set_cons_zero, List.set_cons_succ]
  refine wpAnyU_take 11 [] (v := _) (by simp only [List.getElem?_toArray, List.getElem?_cons_succ, List.getElem?_cons_zero]; rfl) (by kernel_rfl) (by kernel_rfl) (by kernel_rfl) (by kernel_rfl) (by kernel_rfl) (by exact fun _ _ _ h => h) (by rfl) (by (intro w hSw; try obtain s0 := hSw); (go_simp; try rfl)) HS0 ?_
  simp only [Act.put, List.setIfInBounds_toArray, List.set_cons_zero, List.set_cons_succ]
  refine wpAnyU_take 12 [] (v := _) (by simp only [List.getElem?_toArray, List.getElem?_cons_succ, List.getElem?_cons_zero]; rfl) (by kernel_rfl) (by kernel_rfl) (by kernel_rfl) (by kernel_rfl) (by kernel_rfl) (by exact fun _ _ _ h => h) (by rfl) (by (intro w hSw; try obtain s0 := hSw); (go_simp; try rfl)) HS0 ?_
  simp only [Act.put, List.setIfInBounds_toArray, List.set_cons_zero, List.set_cons_succ]
  refine wpAnyU_take 13 [] (v := _) (by simp only [List.getElem?_toArray, List.getElem?_cons_succ, List.getElem?_cons_zero]; rfl) (by kernel_rfl) (by kernel_rfl) (by kernel_rfl) (by kernel_rfl) (by kernel_rfl) (by exact fun _ _ _ h => h) (by rfl) (by (intro w hSw; try obtain s0 := hSw); (go_simp; try rfl)) HS0 ?_
  simp only [Act.put, List.setIfInBounds_toArray, List.set_cons_zero, List.set_cons_succ]
  refine wpAnyU_take 14 [] (v := _) (by simp only [List.getElem?_toArray, List.getElem?_cons_succ, List.getElem?_cons_zero]; rfl) (by kernel_rfl) (by kernel_rfl) (by kernel_rfl) (by kernel_rfl) (by kernel_rfl) (by exact fun _ _ _ h => h) (by rfl) (by (intro w hSw; try obtain s0 := hSw); (go_simp; try rfl)) HS0 ?_
  simp only [Act.put, List.setIfInBounds_toArray, List.set_cons_zero, List.set_cons_succ]
  refine wpAnyU_take 15 [] (v := _) (by simp only [List.getElem?_toArray, List.getElem?_cons_succ, List.getElem?_cons_zero]; rfl) (by kernel_rfl) (by kernel_rfl) (by kernel_rfl) (by kernel_rfl) (by kernel_rfl) (by exact fun _ _ _ h => h) (by rfl) (by (intro w hSw; try obtain s0 := hSw); (go_simp; try rfl)) HS0 ?_
  simp only [Act.put, List.setIfInBounds_toArray, List.set_cons_zero, List.set_cons_succ]
  refine wpAnyU_one 1 (by kernel_rfl) (by simp only [List.getElem?_toArray, List.getElem?_cons_succ, List.getElem?_cons_zero]; rfl) (fun K hK => ?_)
  go_simp
  refine hK.out _ _ (fun _ => HS1) (fun _ => ?_)
  clear hK K
  refine wpAnyU_one 8 (by kernel_rfl) (by simp only [List.getElem?_toArray, List.getElem?_cons_succ, List.getElem?_cons_zero]; rfl) (fun K hK => ?_)
  refine step_append_run (by rfl) _ _ _ (by rfl) (by rfl) (by rfl) HAP8.out ?_
  refine hK.out _ _ (fun _ => HS2) (fun _ => ?_)
  clear hK K
  refine wpAnyU_one 16 (by kernel_rfl) (by simp only [List.getElem?_toArray, List.getElem?_cons_succ, List.getElem?_cons_zero]; rfl) (fun K hK => ?_)
  refine step_append_run (by rfl) _ _ _ (by rfl) (by rfl) (by rfl) HAP16.out ?_
  refine hK.out _ _ (fun _ => HS3) (fun _ => ?_)
  clear hK K
  refine wpAnyU_take 17 [18] (v := _) (by simp only [List.getElem?_toArray, List.getElem?_cons_succ, List.getElem?_cons_zero]; rfl) (by kernel_rfl) (by kernel_rfl) (by kernel_rfl) (by kernel_rfl) (by kernel_rfl) (by exact fun _ _ _ h => h) (by rfl) (by (intro w hSw; try obtain s0 := hSw); (go_simp; try rfl)) HS3 ?_
  simp only [Act.put, List.setIfInBounds_toArray, List.set_cons_zero, List.set_cons_succ]
  refine wpAnyU_take 18 [] (v := _) (by simp only [List.getElem?_toArray, List.getElem?_cons_succ, List.getElem?_cons_zero]; rfl) (by kernel_rfl) (by kernel_rfl) (by kernel_rfl) (by kernel_rfl) (by kernel_rfl) (by exact fun _ _ _ h => h) (by rfl) (by (intro w hSw; try obtain s0 := hSw); (go_simp; try rfl)) HS3 ?_
  simp only [Act.put, List.setIfInBounds_toArray, List.set_cons_zero, List.set_cons_succ]
  refine wpAnyU_one 19 (by kernel_rfl) (by simp only [List.getElem?_toArray, List.getElem?_cons_succ, List.getElem?_cons_zero]; rfl) (fun K hK => ?_)
  go_simp
  refine hK.out _ _ (fun h => absurd rfl h) (fun _ => ?_)
  clear hK K
  refine wpAnyU_done (by kernel_rfl) ?_ _
  go_wp2
  go_ret
  exact ⟨rfl, _, FIN.out⟩
end
section
variable {w W : World} {Rs : List Res} {r : Nat} {H : HeapM}
theorem ref_del (S : Sep w (refR r H :: Rs) W) (hn : (H.objs.map (·.1)).Nodup) (hP : ∀ p ∈ H.objs, PairsOk p.2.pairs) (v k : V) :
  Calls Tryz.prog 112 #[.pointer (some ⟨r, 0, none⟩), v.val, k.val] W fun e W' => e = .returned (.bool (H.has v k)) ∧ Sep w (refR r (H.del v k) :: Rs) W' := by
 rcases S.refOf hn v with ⟨h0, CO⟩ | ⟨o, b, iv, dv, K, ho, CO, -, SF, back⟩
 ·
  have e1 : H.has v k = false := by simp [HeapM.has, h0]
  have e2 : H.del v k = H := by simp [HeapM.del, h0]
  rw [e1, e2]
  have HS := Lib.hid S
  have HCO := Lib.hid CO
  clear h0 CO S e1 e2
  simp only [V.val] at HCO ⊢
  go_enter Tryz.func112, Tryz.ntmps112
  go_wp2_with fail
  refine (HCO.out _ belowA).mono ?_
  rintro e w1 ⟨rfl, hb1⟩
  have HB := Lib.hid (show Below W.heap.size W w1 by exact Below.next belowA hb1 (by (try simp only [World.size_alloc, size_drew, size_drewN, size_setCell]); omega))
  clear hb1
  go_wp2
  go_quiet (fail)
  go_wp2
  go_ret
  exact ⟨rfl, HS.out.later (Below.drewN HB.out _)⟩
 ·
  have e1 : H.has v k = (getL o.pairs k).isSome := by simp [HeapM.has, ho]
  have e2 : H.del v k = H.set v.n { o with pairs := delL o.pairs k } := by simp [HeapM.del, ho]
  have hPo := hP _ (getL_mem (HeapM.of_some ho).2)
  rw [e1, e2]
  have S2 := Lib.hid ((SF.alloc (valObj v)).alloc (valObj k))
  simp only [World.size_alloc] at S2
  have RP := Lib.hid (fun W1 (T : Sep w (boxR (W.heap.size + 1) (valObj k) :: boxR W.heap.size (valObj v) :: boxR b (robj v.n o iv dv) :: valsR iv o.items :: pairsR dv o.pairs :: K) W1) => rdict_del T 2 4 (by decide) rfl rfl hPo k)
  have KB : Hid (∀ W1 (R' : List Res), Sep w (boxR (W.heap.size + 1) (valObj k) :: R') W1 → W1.cell? ⟨W.heap.size + 1, 0, none⟩ = some (.int .i64 k.kind) ∧ W1.cell? ⟨W.heap.size + 1, 1, none⟩ = some (.int .i64 k.n) ∧ W1.cell? ⟨W.heap.size + 1, 2, none⟩ = some (.string k.s)) := Lib.hid fun W1 R' T => by
   obtain ⟨x0, x1, x2, -⟩ := valBlkO (T.box 0 rfl)
   exact ⟨x0, x1, x2⟩
  have BK := Lib.hid back
  have HCO := Lib.hid CO
  clear hPo ho CO S e1 e2 SF back
  simp only [V.val] at HCO RP ⊢
  go_enter Tryz.func112, Tryz.ntmps112
  go_wp2_with fail
  refine (HCO.out _ belowA).mono ?_
  rintro e w1 ⟨rfl, hb1⟩
  have T0 := S2.out.later hb1
  clear hb1 S2
  go_wp2
  go_region_held3 (fun W1 => W1.cell? ⟨W.heap.size + 1, 0, none⟩ = some (.int .i64 k.kind) ∧ W1.cell? ⟨W.heap.size + 1, 1, none⟩ = some (.int .i64 k.n) ∧ W1.cell? ⟨W.heap.size + 1, 2, none⟩ = some (.string k.s))
   (first | exact KB.out _ _ (by assumption) | exact KB.out _ _ (Sep.drew (by assumption)))
   (first | (go_at_call 158; refine (RP.out _ (by first | assumption | exact Sep.drew (by assumption))).mono ?_; rintro e w2 ⟨rfl, dv', T1⟩))
  all_goals
   go_wp2
   go_ret
   exact ⟨rfl, BK.out _ { o with pairs := delL o.pairs k } iv dv' (show Sep w (boxR b (robj v.n o iv dv') :: valsR iv o.items :: pairsR dv' (delL o.pairs k) :: K) _ from Sep.tail (Sep.tail T1))⟩
end
end Go.Proofs.YtijlebhoapdfnaaGreat
