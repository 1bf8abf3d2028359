/-
  FaultChains: for any two numbers the law returns true: an instance of a class of the table matches that class, and all that it comes from, and no other one. No condition.
-/
import Derived.Test.YtobcnffjfclolaaDoorFaultP
import Derived.Test.YtobcnffjfclolaaDoorFaultB
import Derived.Test.YtobcnffjfclolaaDoorFaultC
import Derived.Test.YtobcnffjfclolaaDoorRegT
import Derived.Test.YtobcnffjfclolaaDoorLaid
namespace Go.Proofs.YtobcnffjfclolaaDoor.faultChains
set_option linter.unusedSimpArgs false
open Go.ChangeShapes Go.WideShapes Go.ChangeAt Go.RowKit
set_option linter.unusedVariables false
section
variable {w W : World} {Rs : List Res} {h : Nat} {H : HeapM}
theorem kc_boot (S : Sep w Rs W) (hG : GlobF w) (i : Nat) (hi : Rs[i]? = some (heapR h ⟨[], 0⟩)) :
    Calls Tryd.prog 15 #[.pointer (some ⟨h, 0, none⟩)] W fun e W' => e = .returned (.agg #[.int .i64 4, .int .i64 19, .string ⟨#[]⟩]) ∧ Sep w (Rs.set i (heapR h B0F)) W' :=
  boot_ok S hG i hi fit_empty cls_empty (by omega)
noncomputable def instF (i : Nat) : HeapM := B0F.madeF (refN (0 + 2 + (i : Int))) []
theorem inst_in {i : Nat} (hi : i < 17) : InstOf B0F 0 i [] 1100 (instF i) := inst_of b0.1 b0.2.1 b0.2.2.1 (by decide) (by rw [b0.2.2.2]; decide) hi []
theorem kc_make (S : Sep w Rs W) (j : Nat) (hj : Rs[j]? = some (heapR h B0F)) {i : Nat} (hi : i < 17) :
    Calls Tryd.prog 16 #[.pointer (some ⟨h, 0, none⟩), .agg #[.int .i64 4, .int .i64 19, .string ⟨#[]⟩], .agg #[.string (nameF i), .int .i64 0, .int .i64 0, .string ⟨#[]⟩, .bool false]] W fun e W' => e = .returned (.agg #[.int .i64 4, .int .i64 21, .string ⟨#[]⟩]) ∧ Sep w (Rs.set j (heapR h (instF i))) W' := by
  have := fmake_false S j hj b0.1 (by omega) r19F (nameF i) (nameF_le i) V.zero _ (b0.2.2.1.class_ (by decide) (by decide) hi _)
  rw [b0.2.2.2] at this
  exact this
theorem kc_get (S : Sep w Rs W) (j : Nat) {i k : Nat} (hj : Rs[j]? = some (heapR h (instF i))) (hi : i < 17) (hk : k < 17) (kn : Int) (hkn : kn = 2 + (k : Int)) :
    Calls Tryd.prog 17 #[.pointer (some ⟨h, 0, none⟩), .agg #[.int .i64 4, .int .i64 19, .string ⟨#[]⟩], .agg #[.int .i64 3, .int .i64 0, .string (nameF k)]] W fun e W' => e = .returned (.tuple #[.agg #[.int .i64 4, .int .i64 kn, .string ⟨#[]⟩], .bool true]) ∧ Sep w Rs W' := by
  subst hkn
  have hg : (instF i).get r19F (keyF k) = some (refN (0 + 2 + (k : Int))) := (inst_in hi).boot.get (by decide) hk
  have hr : refN (0 + 2 + (k : Int)) = V.ref (2 + (k : Int)) (okI_of ⟨by omega, by omega⟩) := by
    rw [refN_ok (okI_of ⟨by omega, by omega⟩)]; exact ref_eq (by omega)
  have := S.get_ j hj r19F (keyF k)
  rw [hg, hr] at this
  exact this.mono fun e W' ⟨e1, e2, _⟩ => ⟨e1, e2⟩
theorem kc_match (S : Sep w Rs W) (j : Nat) {i k : Nat} (hj : Rs[j]? = some (heapR h (instF i))) (hi : i < 17) (hk : k < 17) (d : Bool) (hd : decide (k ∈ i :: ancF i) = d) (kn : Int) (hkn : kn = 2 + (k : Int)) :
    Calls Tryd.prog 19 #[.pointer (some ⟨h, 0, none⟩), .agg #[.int .i64 4, .int .i64 19, .string ⟨#[]⟩], .agg #[.int .i64 4, .int .i64 21, .string ⟨#[]⟩], .agg #[.int .i64 4, .int .i64 kn, .string ⟨#[]⟩]] W fun e W' => e = .returned (.tuple #[.bool d, .agg #[.string ⟨#[]⟩, .int .i64 0, .int .i64 0, .string ⟨#[]⟩, .bool false]]) ∧ Sep w Rs W' := by
  subst hkn
  have I := inst_in hi
  have hr : refN (0 + 2 + (k : Int)) = V.ref (2 + (k : Int)) (okI_of ⟨by omega, by omega⟩) := by
    rw [refN_ok (okI_of ⟨by omega, by omega⟩)]; exact ref_eq (by omega)
  have hm := I.mt (by decide) (by rw [b0.2.2.2]; decide) k hk
  have e : V.ref (B0F.last + 2) (by rw [b0.2.2.2]; decide) = r21F := ref_eq (by rw [b0.2.2.2]; rfl)
  rw [e, hr, hd] at hm
  have := matches_ok S j hj I.made.fit.G (by simp) r19F r21F (V.ref (2 + (k : Int)) (okI_of ⟨by omega, by omega⟩))
  rw [show r19F = V.ref (0 + 19) (by decide) from rfl, hm] at this
  exact this
theorem kc_chain (S : Sep w Rs W) (hG : GlobF w) {i k : Nat} (hi : i < 17) (hk : k < 17) (d : Bool) (hd : decide (k ∈ i :: ancF i) = d) :
    Calls Tryd.prog 20 #[.string (nameF i), .string (nameF k)] W fun e W' => e = .returned (.bool d) ∧ Sep w Rs W' := by
  have := chain_ok S hG i k hi hk
  rw [hd] at this; exact this
theorem kc_exc (S : Sep w Rs W) (hG : GlobF w) {i : Nat} (hi : i < 17) :
    Calls Tryd.prog 20 #[.string (nameF i), .string ⟨#[69, 120, 99, 101, 112, 116, 105, 111, 110]⟩] W fun e W' => e = .returned (.bool true) ∧ Sep w Rs W' := by
  have := chain_ok S hG i 0 hi (by omega)
  rw [decide_eq_true (zero_anc i hi)] at this; exact this
theorem base_zero : ∀ i, i < 17 → (baseF i).data.toList.isEmpty = decide (i = 0) := by decide +kernel
theorem base_empty {i : Nat} (hi : i < 17) : (baseS (nameF i)).toList.isEmpty = decide (i = 0) := by
  rw [baseS_some hi rfl, ByteArray.toList_eq, base_zero i hi]
end
set_option maxRecDepth 100000 in
set_option maxHeartbeats 12800000 in
theorem walk_at (w : World) (hG : GlobF w) (i k : Nat) (hi : i < 17) (hk : k < 17) : Calls Tryd.prog 4 #[.int .i64 i, .int .i64 k] w fun e W' => e = .returned (.bool true) ∧ Below w.heap.size w W' := by
  have HGL := Lib.hid hG
  have hi1 : (i : Int) < 17 := by omega
  have hk1 : (k : Int) < 17 := by omega
  have hi0 : (0 : Int) ≤ i := by omega
  have hk0 : (0 : Int) ≤ k := by omega
  have HIK := Lib.hid (And.intro hi hk)
  have M := Lib.hid (fnames_ok (Sep.start (Below.refl w.heap.size w)) hG)
  clear hG
  go_enter Tryd.func4, Tryd.ntmps4
  go_wp2_with fail
  refine M.out.mono ?_
  rintro e w1 ⟨a, c, rfl, S⟩
  obtain ⟨g, rfl⟩ : ∃ g, a = some ⟨g, 0, none⟩ := by
    rcases (S.row 0 rfl).shape with ⟨h1, h2⟩ | ⟨g, cap, h1, _⟩
    · exact absurd (congrArg List.length h2) (by rw [takeN_len]; decide)
    · exact ⟨g, (Value.slice.inj h1).1⟩
  clear M
  replace S : Sep w (strsR (.slice (some ⟨g, 0, none⟩) 17 c) (takeN 17) :: []) _ := S
  have M := Lib.hid (S.new)
  clear S
  go_wp2_with fail
  refine M.out.mono ?_
  rintro e w2 ⟨h, rfl, S, -⟩
  clear M
  replace S : Sep w (heapR h ⟨[], 0⟩ :: strsR (.slice (some ⟨g, 0, none⟩) 17 c) (takeN 17) :: []) _ := S
  have M := Lib.hid (kc_boot S HGL.out 0 rfl)
  clear S
  go_wp2_with fail
  refine M.out.mono ?_
  rintro e w3 ⟨rfl, S⟩
  clear M
  replace S : Sep w (heapR h B0F :: strsR (.slice (some ⟨g, 0, none⟩) 17 c) (takeN 17) :: []) _ := S
  obtain ⟨b2, hb2⟩ : ∃ gx_, (w3.heap.size) = gx_ := ⟨_, rfl⟩
  replace S := (S.alloc (.cells #[.int .i64 4, .int .i64 19, .string ⟨#[]⟩] 31))
  simp only [World.size_alloc, hb2] at S
  replace S : Sep w (boxR b2 (.cells #[.int .i64 4, .int .i64 19, .string ⟨#[]⟩] 31) :: heapR h B0F :: strsR (.slice (some ⟨g, 0, none⟩) 17 c) (takeN 17) :: []) _ := S
  obtain ⟨baseA, hbaseA⟩ : ∃ base, base = boxR b2 (.cells #[.int .i64 4, .int .i64 19, .string ⟨#[]⟩] 31) :: heapR h B0F :: strsR (.slice (some ⟨g, 0, none⟩) 17 c) (takeN 17) :: [] := ⟨_, rfl⟩
  have HbaseA := Lib.hid hbaseA
  have KbaseA : Hid (∀ W (Q : List Res), Sep w (Q ++ baseA) W → W.cell? ⟨b2, 0, none⟩ = some (.int .i64 4) ∧ W.cell? ⟨b2, 1, none⟩ = some (.int .i64 19) ∧ W.cell? ⟨b2, 2, none⟩ = some (.string ⟨#[]⟩) ∧ W.cell? ⟨g, i, none⟩ = some (.string (nameF i))) := Lib.hid fun W Q T => by
    rw [hbaseA] at T
    have i0 := T.box (b := b2) (o := .cells #[.int .i64 4, .int .i64 19, .string ⟨#[]⟩] 31) (Q.length + 0) (by rw [List.getElem?_append_right (by omega), Nat.add_sub_cancel_left]; rfl)
    exact ⟨cellAt i0 0 rfl, cellAt i0 1 rfl, cellAt i0 2 rfl, strs_cell T (Q.length + 2) (by rw [List.getElem?_append_right (by omega), Nat.add_sub_cancel_left]; rfl) HIK.out.1⟩
  obtain ⟨baseB, hbaseB⟩ : ∃ base, base = boxR b2 (.cells #[.int .i64 4, .int .i64 19, .string ⟨#[]⟩] 31) :: heapR h (instF i) :: strsR (.slice (some ⟨g, 0, none⟩) 17 c) (takeN 17) :: [] := ⟨_, rfl⟩
  have HbaseB := Lib.hid hbaseB
  have KbaseB : Hid (∀ W (Q : List Res), Sep w (Q ++ baseB) W → W.cell? ⟨b2, 0, none⟩ = some (.int .i64 4) ∧ W.cell? ⟨b2, 1, none⟩ = some (.int .i64 19) ∧ W.cell? ⟨b2, 2, none⟩ = some (.string ⟨#[]⟩) ∧ W.cell? ⟨g, i, none⟩ = some (.string (nameF i))) := Lib.hid fun W Q T => by
    rw [hbaseB] at T
    have i0 := T.box (b := b2) (o := .cells #[.int .i64 4, .int .i64 19, .string ⟨#[]⟩] 31) (Q.length + 0) (by rw [List.getElem?_append_right (by omega), Nat.add_sub_cancel_left]; rfl)
    exact ⟨cellAt i0 0 rfl, cellAt i0 1 rfl, cellAt i0 2 rfl, strs_cell T (Q.length + 2) (by rw [List.getElem?_append_right (by omega), Nat.add_sub_cancel_left]; rfl) HIK.out.1⟩
  have KM : Hid (∀ W (Q : List Res), Sep w (Q ++ baseA) W → Calls Tryd.prog 16 #[.pointer (some ⟨h, 0, none⟩), .agg #[.int .i64 4, .int .i64 19, .string ⟨#[]⟩], .agg #[.string (nameF i), .int .i64 0, .int .i64 0, .string ⟨#[]⟩, .bool false]] W fun e W' => e = .returned (.agg #[.int .i64 4, .int .i64 21, .string ⟨#[]⟩]) ∧ Sep w (Q ++ baseB) W') := Lib.hid fun W Q T => by
    rw [HbaseA.out] at T
    rw [HbaseB.out]
    have hh := kc_make T (Q.length + 1) (by rw [List.getElem?_append_right (by omega), Nat.add_sub_cancel_left]; rfl) HIK.out.1
    rw [List.set_append_right _ _ (by omega), Nat.add_sub_cancel_left] at hh
    exact hh
  replace S : Sep w (baseA) (w3.alloc (.cells #[.int .i64 4, .int .i64 19, .string ⟨#[]⟩] 31)) := by rw [hbaseA]; exact S
  replace S := Lib.hid S
  clear hbaseA hbaseB
  go_upto_region 6 with fail
  try simp only [hb2]
  obtain ⟨Wd6, hW⟩ : ∃ gx_, ((w3.alloc (.cells #[.int .i64 4, .int .i64 19, .string ⟨#[]⟩] 31))) = gx_ := ⟨_, rfl⟩
  rw [hW] at S ⊢
  clear hW hb2
  go_cut [8] (fun s8 wx => ∃ qx, s8 = .pointer (some ⟨qx, 0, none⟩) ∧ Sep w (boxR qx (.cells #[.int .i64 4, .int .i64 21, .string ⟨#[]⟩] 31) :: baseB) wx)
  case first =>
    have T0 : Sep w ([] ++ baseA) _ := S.out.drew
    clear S
    as_aux_lemma =>
      refine wp_region_held_drew (S := fun W => W.cell? ⟨b2, 0, none⟩ = some (.int .i64 4) ∧ W.cell? ⟨b2, 1, none⟩ = some (.int .i64 19) ∧ W.cell? ⟨b2, 2, none⟩ = some (.string ⟨#[]⟩) ∧ W.cell? ⟨g, i, none⟩ = some (.string (nameF i))) (by kernel_rfl) (KbaseA.out _ [] T0) (fun hH => ?_)
      refine takeT 0 hH (hy := .inl ⟨by rfl, by (intro w hSw; try obtain ⟨u0, u1, u2, v0⟩ := hSw); (go_simp; try rfl)⟩) (h := ?_)
      simp only [Act.put, List.setIfInBounds_toArray, List.set_cons_zero, List.set_cons_succ]
      refine takeT 1 hH (hy := .inl ⟨by rfl, by (intro w hSw; try obtain ⟨u0, u1, u2, v0⟩ := hSw); (go_simp; try rfl)⟩) (h := ?_)
      simp only [Act.put, List.setIfInBounds_toArray, List.set_cons_zero, List.set_cons_succ]
      refine takeT 2 hH (hy := .inl ⟨by rfl, by (intro w hSw; try obtain ⟨u0, u1, u2, v0⟩ := hSw); (go_simp; try rfl)⟩) (h := ?_)
      simp only [Act.put, List.setIfInBounds_toArray, List.set_cons_zero, List.set_cons_succ]
      refine takeT 3 hH (hy := .inl ⟨by rfl, by (intro w hSw; try obtain ⟨u0, u1, u2, v0⟩ := hSw); (go_simp; try rfl)⟩) (h := ?_)
      simp only [Act.put, List.setIfInBounds_toArray, List.set_cons_zero, List.set_cons_succ]
      refine takeT 4 hH (hy := .inl ⟨by rfl, by (intro w hSw; try obtain ⟨u0, u1, u2, v0⟩ := hSw); (go_simp; try rfl)⟩) (h := ?_)
      simp only [Act.put, List.setIfInBounds_toArray, List.set_cons_zero, List.set_cons_succ]
      refine takeT 5 hH (hy := .inl ⟨by rfl, by (intro w hSw; try obtain ⟨u0, u1, u2, v0⟩ := hSw); (go_simp; try rfl)⟩) (h := ?_)
      simp only [Act.put, List.setIfInBounds_toArray, List.set_cons_zero, List.set_cons_succ]
      refine takeT 6 hH (hy := .inl ⟨by rfl, by (intro w hSw; try obtain ⟨u0, u1, u2, v0⟩ := hSw); (go_simp; try rfl)⟩) (h := ?_)
      simp only [Act.put, List.setIfInBounds_toArray, List.set_cons_zero, List.set_cons_succ]
      refine readyT [7, 8] ?_
      refine consT (fun K hK => ?_) (consT (fun K hK => ?_) AllReadyH.nil)
      · go_simp
        go_wp2_with (go_at_call 16; refine (KM.out _ [] T0).mono ?_; rintro e w1 ⟨rfl, T1⟩)
        clear hH
        refine hK.out _ _ (KbaseB.out _ [] T1) (fun hH => ?_)
        clear hK K
        refine readyT [8] ?_
        refine consT (fun K hK => ?_) AllReadyH.nil
        go_simp
        have T2 : Sep w ([boxR _ (.cells #[.int .i64 0, .int .i64 0, .string ⟨#[]⟩] 31)] ++ baseB) _ := Sep.alloc T1 (.cells #[.int .i64 0, .int .i64 0, .string ⟨#[]⟩] 31)
        try simp only [size_drew, World.size_alloc] at T2
        clear hH
        refine hK.out _ _ (KbaseB.out _ [_] T2) (fun hH => ?_)
        clear hK K
        refine readyT [9] ?_
        refine consT (fun K hK => ?_) AllReadyH.nil
        have hz := T2.box 0 rfl
        have z0 := cellAt hz 0 (v := .int .i64 0) rfl
        have z1 := cellAt hz 1 (v := .int .i64 0) rfl
        have z2 := cellAt hz 2 (v := .string ⟨#[]⟩) rfl
        have z3 := frozenAt hz 0
        have z4 := frozenAt hz 1
        have z5 := frozenAt hz 2
        try simp only [World.cell?_drew, World.frozen?_drew] at z0 z1 z2 z3 z4 z5
        go_simp
        clear hz z0 z1 z2 z3 z4 z5
        clear hH
        first | (have T3 : Sep w ([boxR _ (.cells #[.int .i64 4, .int .i64 21, .string ⟨#[]⟩] 31)] ++ baseB) _ := (Sep.alloc T1 (.cells #[.int .i64 4, .int .i64 21, .string ⟨#[]⟩] 31)); (try simp only [size_drew, World.size_alloc] at T3); refine hK.out _ _ (KbaseB.out _ [_] T3) (fun hH => ?_)) | (have T3 : Sep w ([boxR _ (.cells #[.int .i64 4, .int .i64 21, .string ⟨#[]⟩] 31)] ++ baseB) _ := (Sep.setBox (cs := #[.int .i64 4, .int .i64 21, .string ⟨#[]⟩]) (t := 31) (Sep.setBox (cs := #[.int .i64 4, .int .i64 0, .string ⟨#[]⟩]) (t := 31) (Sep.setBox (cs := #[.int .i64 0, .int .i64 0, .string ⟨#[]⟩]) (t := 31) T2 0 rfl 0 (.int .i64 4)) 0 rfl 1 (.int .i64 21)) 0 rfl 2 (.string ⟨#[]⟩)); (try simp only [size_drew, World.size_alloc] at T3); refine hK.out _ _ (KbaseB.out _ [_] T3) (fun hH => ?_))
        clear hK K
        refine wpAnyH_done (by kernel_rfl) ?_ _
        as_aux_lemma =>
          go_wp2_with fail
          go_meet
          exact ⟨_, rfl, T3⟩
      · go_simp
        have T4 : Sep w ([boxR _ (.cells #[.int .i64 0, .int .i64 0, .string ⟨#[]⟩] 31)] ++ baseA) _ := Sep.alloc T0 (.cells #[.int .i64 0, .int .i64 0, .string ⟨#[]⟩] 31)
        try simp only [size_drew, World.size_alloc] at T4
        clear hH
        refine hK.out _ _ (KbaseA.out _ [_] T4) (fun hH => ?_)
        clear hK K
        refine readyT [7] ?_
        refine consT (fun K hK => ?_) AllReadyH.nil
        go_simp
        go_wp2_with (go_at_call 16; refine (KM.out _ [_] T4).mono ?_; rintro e w5 ⟨rfl, T5⟩)
        clear hH
        refine hK.out _ _ (KbaseB.out _ [_] T5) (fun hH => ?_)
        clear hK K
        refine readyT [9] ?_
        refine consT (fun K hK => ?_) AllReadyH.nil
        have hz := T5.box 0 rfl
        have z0 := cellAt hz 0 (v := .int .i64 0) rfl
        have z1 := cellAt hz 1 (v := .int .i64 0) rfl
        have z2 := cellAt hz 2 (v := .string ⟨#[]⟩) rfl
        have z3 := frozenAt hz 0
        have z4 := frozenAt hz 1
        have z5 := frozenAt hz 2
        try simp only [World.cell?_drew, World.frozen?_drew] at z0 z1 z2 z3 z4 z5
        go_simp
        clear hz z0 z1 z2 z3 z4 z5
        clear hH
        have T6 : Sep w ([boxR _ (.cells #[.int .i64 4, .int .i64 21, .string ⟨#[]⟩] 31)] ++ baseB) _ := (Sep.setBox (cs := #[.int .i64 4, .int .i64 21, .string ⟨#[]⟩]) (t := 31) (Sep.setBox (cs := #[.int .i64 4, .int .i64 0, .string ⟨#[]⟩]) (t := 31) (Sep.setBox (cs := #[.int .i64 0, .int .i64 0, .string ⟨#[]⟩]) (t := 31) T5 0 rfl 0 (.int .i64 4)) 0 rfl 1 (.int .i64 21)) 0 rfl 2 (.string ⟨#[]⟩))
        try simp only [size_drew, World.size_alloc] at T6
        refine hK.out _ _ (KbaseB.out _ [_] T6) (fun hH => ?_)
        clear hK K
        refine wpAnyH_done (by kernel_rfl) ?_ _
        as_aux_lemma =>
          go_wp2_with fail
          go_meet
          exact ⟨_, rfl, T6⟩
  case rest =>
    obtain ⟨q8, rfl, S⟩ := hcut
    rw [HbaseB.out] at S
    clear KM KbaseA HbaseA KbaseB HbaseB
    replace S : Sep w (boxR q8 (.cells #[.int .i64 4, .int .i64 21, .string ⟨#[]⟩] 31) :: boxR b2 (.cells #[.int .i64 4, .int .i64 19, .string ⟨#[]⟩] 31) :: heapR h (instF i) :: strsR (.slice (some ⟨g, 0, none⟩) 17 c) (takeN 17) :: []) _ := S
    obtain ⟨baseA, hbaseA⟩ : ∃ base, base = boxR q8 (.cells #[.int .i64 4, .int .i64 21, .string ⟨#[]⟩] 31) :: boxR b2 (.cells #[.int .i64 4, .int .i64 19, .string ⟨#[]⟩] 31) :: heapR h (instF i) :: strsR (.slice (some ⟨g, 0, none⟩) 17 c) (takeN 17) :: [] := ⟨_, rfl⟩
    have HbaseA := Lib.hid hbaseA
    have KbaseA : Hid (∀ W (Q : List Res), Sep w (Q ++ baseA) W → W.cell? ⟨b2, 0, none⟩ = some (.int .i64 4) ∧ W.cell? ⟨b2, 1, none⟩ = some (.int .i64 19) ∧ W.cell? ⟨b2, 2, none⟩ = some (.string ⟨#[]⟩) ∧ W.cell? ⟨g, k, none⟩ = some (.string (nameF k))) := Lib.hid fun W Q T => by
      rw [hbaseA] at T
      have i0 := T.box (b := b2) (o := .cells #[.int .i64 4, .int .i64 19, .string ⟨#[]⟩] 31) (Q.length + 1) (by rw [List.getElem?_append_right (by omega), Nat.add_sub_cancel_left]; rfl)
      exact ⟨cellAt i0 0 rfl, cellAt i0 1 rfl, cellAt i0 2 rfl, strs_cell T (Q.length + 3) (by rw [List.getElem?_append_right (by omega), Nat.add_sub_cancel_left]; rfl) HIK.out.2⟩
    obtain ⟨kn, hkn⟩ : ∃ kn, kn = 2 + (k : Int) := ⟨_, rfl⟩
    have HKN := Lib.hid hkn
    clear hkn
    have KY : Hid (∀ W (Q : List Res), Sep w (Q ++ baseA) W → Calls Tryd.prog 18 #[.string (nameF k)] W fun e W' => e = .returned (.agg #[.int .i64 3, .int .i64 0, .string (nameF k)]) ∧ Sep w (Q ++ baseA) W') := Lib.hid fun W Q T => by
      exact (ltext_ok W _).mono fun e W' ⟨e1, e2⟩ => ⟨e1, T.later e2⟩
    have KG : Hid (∀ W (Q : List Res), Sep w (Q ++ baseA) W → Calls Tryd.prog 17 #[.pointer (some ⟨h, 0, none⟩), .agg #[.int .i64 4, .int .i64 19, .string ⟨#[]⟩], .agg #[.int .i64 3, .int .i64 0, .string (nameF k)]] W fun e W' => e = .returned (.tuple #[.agg #[.int .i64 4, .int .i64 kn, .string ⟨#[]⟩], .bool true]) ∧ Sep w (Q ++ baseA) W') := Lib.hid fun W Q T => by
      rw [HbaseA.out] at T ⊢
      exact kc_get T (Q.length + 2) (by rw [List.getElem?_append_right (by omega), Nat.add_sub_cancel_left]; rfl) HIK.out.1 HIK.out.2 kn HKN.out
    replace S : Sep w (baseA) wc := by rw [hbaseA]; exact S
    replace S := Lib.hid S
    clear hbaseA
    go_upto_region 7 with fail
    go_cut [9, 10] (fun s9 s10 wx => ∃ qx, s9 = .pointer (some ⟨qx, 0, none⟩) ∧ s10 = .bool true ∧ Sep w (boxR qx (.cells #[.int .i64 4, .int .i64 kn, .string ⟨#[]⟩] 31) :: baseA) wx)
    case first =>
      have T0 : Sep w ([] ++ baseA) _ := S.out.drew
      clear S
      as_aux_lemma =>
        refine wp_region_held_drew (S := fun W => W.cell? ⟨b2, 0, none⟩ = some (.int .i64 4) ∧ W.cell? ⟨b2, 1, none⟩ = some (.int .i64 19) ∧ W.cell? ⟨b2, 2, none⟩ = some (.string ⟨#[]⟩) ∧ W.cell? ⟨g, k, none⟩ = some (.string (nameF k))) (by kernel_rfl) (KbaseA.out _ [] T0) (fun hH => ?_)
        refine takeT 0 hH (hy := .inl ⟨by rfl, by (intro w hSw; try obtain ⟨u0, u1, u2, v0⟩ := hSw); (go_simp; try rfl)⟩) (h := ?_)
        simp only [Act.put, List.setIfInBounds_toArray, List.set_cons_zero, List.set_cons_succ]
        refine takeT 1 hH (hy := .inl ⟨by rfl, by (intro w hSw; try obtain ⟨u0, u1, u2, v0⟩ := hSw); (go_simp; try rfl)⟩) (h := ?_)
        simp only [Act.put, List.setIfInBounds_toArray, List.set_cons_zero, List.set_cons_succ]
        refine takeT 2 hH (hy := .inl ⟨by rfl, by (intro w hSw; try obtain ⟨u0, u1, u2, v0⟩ := hSw); (go_simp; try rfl)⟩) (h := ?_)
        simp only [Act.put, List.setIfInBounds_toArray, List.set_cons_zero, List.set_cons_succ]
        refine takeT 3 hH (hy := .inl ⟨by rfl, by (intro w hSw; try obtain ⟨u0, u1, u2, v0⟩ := hSw); (go_simp; try rfl)⟩) (h := ?_)
        simp only [Act.put, List.setIfInBounds_toArray, List.set_cons_zero, List.set_cons_succ]
        refine takeT 4 hH (hy := .inl ⟨by rfl, by (intro w hSw; try obtain ⟨u0, u1, u2, v0⟩ := hSw); (go_simp; try rfl)⟩) (h := ?_)
        simp only [Act.put, List.setIfInBounds_toArray, List.set_cons_zero, List.set_cons_succ]
        refine takeT 5 hH (hy := .inl ⟨by rfl, by (intro w hSw; try obtain ⟨u0, u1, u2, v0⟩ := hSw); (go_simp; try rfl)⟩) (h := ?_)
        simp only [Act.put, List.setIfInBounds_toArray, List.set_cons_zero, List.set_cons_succ]
        refine readyT [6, 11] ?_
        refine consT (fun K hK => ?_) (consT (fun K hK => ?_) AllReadyH.nil)
        · go_simp
          go_wp2_with (go_at_call 18; refine (KY.out _ [] T0).mono ?_; rintro e w1 ⟨rfl, T1⟩)
          clear hH
          refine hK.out _ _ (KbaseA.out _ [] T1) (fun hH => ?_)
          clear hK K
          refine readyT [7, 11] ?_
          refine consT (fun K hK => ?_) (consT (fun K hK => ?_) AllReadyH.nil)
          · go_simp
            go_wp2_with (go_at_call 17; refine (KG.out _ [] T1).mono ?_; rintro e w2 ⟨rfl, T2⟩)
            clear hH
            refine hK.out _ _ (KbaseA.out _ [] T2) (fun hH => ?_)
            clear hK K
            refine takeT 8 hH (hy := .inl ⟨by rfl, by (intro w hSw; try obtain ⟨u0, u1, u2, v0⟩ := hSw); (go_simp; try rfl)⟩) (h := ?_)
            simp only [Act.put, List.setIfInBounds_toArray, List.set_cons_zero, List.set_cons_succ]
            refine takeT 9 hH (hy := .inl ⟨by rfl, by (intro w hSw; try obtain ⟨u0, u1, u2, v0⟩ := hSw); (go_simp; try rfl)⟩) (h := ?_)
            simp only [Act.put, List.setIfInBounds_toArray, List.set_cons_zero, List.set_cons_succ]
            refine takeT 10 hH (hy := .inl ⟨by rfl, by (intro w hSw; try obtain ⟨u0, u1, u2, v0⟩ := hSw); (go_simp; try rfl)⟩) (h := ?_)
            simp only [Act.put, List.setIfInBounds_toArray, List.set_cons_zero, List.set_cons_succ]
            refine readyT [11] ?_
            refine consT (fun K hK => ?_) AllReadyH.nil
            go_simp
            have T3 : Sep w ([boxR _ (.cells #[.int .i64 0, .int .i64 0, .string ⟨#[]⟩] 31)] ++ baseA) _ := Sep.alloc T2 (.cells #[.int .i64 0, .int .i64 0, .string ⟨#[]⟩] 31)
            try simp only [size_drew, World.size_alloc] at T3
            clear hH
            refine hK.out _ _ (KbaseA.out _ [_] T3) (fun hH => ?_)
            clear hK K
            refine readyT [12] ?_
            refine consT (fun K hK => ?_) AllReadyH.nil
            have hz := T3.box 0 rfl
            have z0 := cellAt hz 0 (v := .int .i64 0) rfl
            have z1 := cellAt hz 1 (v := .int .i64 0) rfl
            have z2 := cellAt hz 2 (v := .string ⟨#[]⟩) rfl
            have z3 := frozenAt hz 0
            have z4 := frozenAt hz 1
            have z5 := frozenAt hz 2
            try simp only [World.cell?_drew, World.frozen?_drew] at z0 z1 z2 z3 z4 z5
            go_simp
            clear hz z0 z1 z2 z3 z4 z5
            clear hH
            first | (have T4 : Sep w ([boxR _ (.cells #[.int .i64 4, .int .i64 kn, .string ⟨#[]⟩] 31)] ++ baseA) _ := (Sep.alloc T2 (.cells #[.int .i64 4, .int .i64 kn, .string ⟨#[]⟩] 31)); (try simp only [size_drew, World.size_alloc] at T4); refine hK.out _ _ (KbaseA.out _ [_] T4) (fun hH => ?_)) | (have T4 : Sep w ([boxR _ (.cells #[.int .i64 4, .int .i64 kn, .string ⟨#[]⟩] 31)] ++ baseA) _ := (Sep.setBox (cs := #[.int .i64 4, .int .i64 kn, .string ⟨#[]⟩]) (t := 31) (Sep.setBox (cs := #[.int .i64 4, .int .i64 0, .string ⟨#[]⟩]) (t := 31) (Sep.setBox (cs := #[.int .i64 0, .int .i64 0, .string ⟨#[]⟩]) (t := 31) T3 0 rfl 0 (.int .i64 4)) 0 rfl 1 (.int .i64 kn)) 0 rfl 2 (.string ⟨#[]⟩)); (try simp only [size_drew, World.size_alloc] at T4); refine hK.out _ _ (KbaseA.out _ [_] T4) (fun hH => ?_))
            clear hK K
            refine takeT 13 hH (hy := .inl ⟨by rfl, by (intro w hSw; try obtain ⟨u0, u1, u2, v0⟩ := hSw); (go_simp; try rfl)⟩) (h := ?_)
            simp only [Act.put, List.setIfInBounds_toArray, List.set_cons_zero, List.set_cons_succ]
            refine wpAnyH_done (by kernel_rfl) ?_ _
            as_aux_lemma =>
              go_wp2_with fail
              go_meet
              exact ⟨_, rfl, rfl, T4⟩
          · go_simp
            have T5 : Sep w ([boxR _ (.cells #[.int .i64 0, .int .i64 0, .string ⟨#[]⟩] 31)] ++ baseA) _ := Sep.alloc T1 (.cells #[.int .i64 0, .int .i64 0, .string ⟨#[]⟩] 31)
            try simp only [size_drew, World.size_alloc] at T5
            clear hH
            refine hK.out _ _ (KbaseA.out _ [_] T5) (fun hH => ?_)
            clear hK K
            refine readyT [7] ?_
            refine consT (fun K hK => ?_) AllReadyH.nil
            go_simp
            go_wp2_with (go_at_call 17; refine (KG.out _ [_] T5).mono ?_; rintro e w6 ⟨rfl, T6⟩)
            clear hH
            refine hK.out _ _ (KbaseA.out _ [_] T6) (fun hH => ?_)
            clear hK K
            refine takeT 8 hH (hy := .inl ⟨by rfl, by (intro w hSw; try obtain ⟨u0, u1, u2, v0⟩ := hSw); (go_simp; try rfl)⟩) (h := ?_)
            simp only [Act.put, List.setIfInBounds_toArray, List.set_cons_zero, List.set_cons_succ]
            refine takeT 9 hH (hy := .inl ⟨by rfl, by (intro w hSw; try obtain ⟨u0, u1, u2, v0⟩ := hSw); (go_simp; try rfl)⟩) (h := ?_)
            simp only [Act.put, List.setIfInBounds_toArray, List.set_cons_zero, List.set_cons_succ]
            refine takeT 10 hH (hy := .inl ⟨by rfl, by (intro w hSw; try obtain ⟨u0, u1, u2, v0⟩ := hSw); (go_simp; try rfl)⟩) (h := ?_)
            simp only [Act.put, List.setIfInBounds_toArray, List.set_cons_zero, List.set_cons_succ]
            refine readyT [12] ?_
            refine consT (fun K hK => ?_) AllReadyH.nil
            have hz := T6.box 0 rfl
            have z0 := cellAt hz 0 (v := .int .i64 0) rfl
            have z1 := cellAt hz 1 (v := .int .i64 0) rfl
            have z2 := cellAt hz 2 (v := .string ⟨#[]⟩) rfl
            have z3 := frozenAt hz 0
            have z4 := frozenAt hz 1
            have z5 := frozenAt hz 2
            try simp only [World.cell?_drew, World.frozen?_drew] at z0 z1 z2 z3 z4 z5
            go_simp
            clear hz z0 z1 z2 z3 z4 z5
            clear hH
            have T7 : Sep w ([boxR _ (.cells #[.int .i64 4, .int .i64 kn, .string ⟨#[]⟩] 31)] ++ baseA) _ := (Sep.setBox (cs := #[.int .i64 4, .int .i64 kn, .string ⟨#[]⟩]) (t := 31) (Sep.setBox (cs := #[.int .i64 4, .int .i64 0, .string ⟨#[]⟩]) (t := 31) (Sep.setBox (cs := #[.int .i64 0, .int .i64 0, .string ⟨#[]⟩]) (t := 31) T6 0 rfl 0 (.int .i64 4)) 0 rfl 1 (.int .i64 kn)) 0 rfl 2 (.string ⟨#[]⟩))
            try simp only [size_drew, World.size_alloc] at T7
            refine hK.out _ _ (KbaseA.out _ [_] T7) (fun hH => ?_)
            clear hK K
            refine takeT 13 hH (hy := .inl ⟨by rfl, by (intro w hSw; try obtain ⟨u0, u1, u2, v0⟩ := hSw); (go_simp; try rfl)⟩) (h := ?_)
            simp only [Act.put, List.setIfInBounds_toArray, List.set_cons_zero, List.set_cons_succ]
            refine wpAnyH_done (by kernel_rfl) ?_ _
            as_aux_lemma =>
              go_wp2_with fail
              go_meet
              exact ⟨_, rfl, rfl, T7⟩
        · go_simp
          have T8 : Sep w ([boxR _ (.cells #[.int .i64 0, .int .i64 0, .string ⟨#[]⟩] 31)] ++ baseA) _ := Sep.alloc T0 (.cells #[.int .i64 0, .int .i64 0, .string ⟨#[]⟩] 31)
          try simp only [size_drew, World.size_alloc] at T8
          clear hH
          refine hK.out _ _ (KbaseA.out _ [_] T8) (fun hH => ?_)
          clear hK K
          refine readyT [6] ?_
          refine consT (fun K hK => ?_) AllReadyH.nil
          go_simp
          go_wp2_with (go_at_call 18; refine (KY.out _ [_] T8).mono ?_; rintro e w9 ⟨rfl, T9⟩)
          clear hH
          refine hK.out _ _ (KbaseA.out _ [_] T9) (fun hH => ?_)
          clear hK K
          refine readyT [7] ?_
          refine consT (fun K hK => ?_) AllReadyH.nil
          go_simp
          go_wp2_with (go_at_call 17; refine (KG.out _ [_] T9).mono ?_; rintro e w10 ⟨rfl, T10⟩)
          clear hH
          refine hK.out _ _ (KbaseA.out _ [_] T10) (fun hH => ?_)
          clear hK K
          refine takeT 8 hH (hy := .inl ⟨by rfl, by (intro w hSw; try obtain ⟨u0, u1, u2, v0⟩ := hSw); (go_simp; try rfl)⟩) (h := ?_)
          simp only [Act.put, List.setIfInBounds_toArray, List.set_cons_zero, List.set_cons_succ]
          refine takeT 9 hH (hy := .inl ⟨by rfl, by (intro w hSw; try obtain ⟨u0, u1, u2, v0⟩ := hSw); (go_simp; try rfl)⟩) (h := ?_)
          simp only [Act.put, List.setIfInBounds_toArray, List.set_cons_zero, List.set_cons_succ]
          refine takeT 10 hH (hy := .inl ⟨by rfl, by (intro w hSw; try obtain ⟨u0, u1, u2, v0⟩ := hSw); (go_simp; try rfl)⟩) (h := ?_)
          simp only [Act.put, List.setIfInBounds_toArray, List.set_cons_zero, List.set_cons_succ]
          refine readyT [12] ?_
          refine consT (fun K hK => ?_) AllReadyH.nil
          have hz := T10.box 0 rfl
          have z0 := cellAt hz 0 (v := .int .i64 0) rfl
          have z1 := cellAt hz 1 (v := .int .i64 0) rfl
          have z2 := cellAt hz 2 (v := .string ⟨#[]⟩) rfl
          have z3 := frozenAt hz 0
          have z4 := frozenAt hz 1
          have z5 := frozenAt hz 2
          try simp only [World.cell?_drew, World.frozen?_drew] at z0 z1 z2 z3 z4 z5
          go_simp
          clear hz z0 z1 z2 z3 z4 z5
          clear hH
          have T11 : Sep w ([boxR _ (.cells #[.int .i64 4, .int .i64 kn, .string ⟨#[]⟩] 31)] ++ baseA) _ := (Sep.setBox (cs := #[.int .i64 4, .int .i64 kn, .string ⟨#[]⟩]) (t := 31) (Sep.setBox (cs := #[.int .i64 4, .int .i64 0, .string ⟨#[]⟩]) (t := 31) (Sep.setBox (cs := #[.int .i64 0, .int .i64 0, .string ⟨#[]⟩]) (t := 31) T10 0 rfl 0 (.int .i64 4)) 0 rfl 1 (.int .i64 kn)) 0 rfl 2 (.string ⟨#[]⟩))
          try simp only [size_drew, World.size_alloc] at T11
          refine hK.out _ _ (KbaseA.out _ [_] T11) (fun hH => ?_)
          clear hK K
          refine takeT 13 hH (hy := .inl ⟨by rfl, by (intro w hSw; try obtain ⟨u0, u1, u2, v0⟩ := hSw); (go_simp; try rfl)⟩) (h := ?_)
          simp only [Act.put, List.setIfInBounds_toArray, List.set_cons_zero, List.set_cons_succ]
          refine wpAnyH_done (by kernel_rfl) ?_ _
          as_aux_lemma =>
            go_wp2_with fail
            go_meet
            exact ⟨_, rfl, rfl, T11⟩
    case rest =>
      obtain ⟨q9, rfl, rfl, S⟩ := hcut
      rw [HbaseA.out] at S
      clear KY KG KbaseA HbaseA
      replace S : Sep w (boxR q9 (.cells #[.int .i64 4, .int .i64 kn, .string ⟨#[]⟩] 31) :: boxR q8 (.cells #[.int .i64 4, .int .i64 21, .string ⟨#[]⟩] 31) :: boxR b2 (.cells #[.int .i64 4, .int .i64 19, .string ⟨#[]⟩] 31) :: heapR h (instF i) :: strsR (.slice (some ⟨g, 0, none⟩) 17 c) (takeN 17) :: []) _ := S
      obtain ⟨d, hd⟩ : ∃ d, decide (k ∈ i :: ancF i) = d := ⟨_, rfl⟩
      have HD := Lib.hid hd
      clear hd
      have d0 := cellAt (S.box (b := b2) 2 rfl) 0 (v := .int .i64 4) rfl
      have d1 := cellAt (S.box (b := b2) 2 rfl) 1 (v := .int .i64 19) rfl
      have d2 := cellAt (S.box (b := b2) 2 rfl) 2 (v := .string ⟨#[]⟩) rfl
      have d3 := cellAt (S.box (b := q8) 1 rfl) 0 (v := .int .i64 4) rfl
      have d4 := cellAt (S.box (b := q8) 1 rfl) 1 (v := .int .i64 21) rfl
      have d5 := cellAt (S.box (b := q8) 1 rfl) 2 (v := .string ⟨#[]⟩) rfl
      have d6 := cellAt (S.box (b := q9) 0 rfl) 0 (v := .int .i64 4) rfl
      have d7 := cellAt (S.box (b := q9) 0 rfl) 1 (v := .int .i64 kn) rfl
      have d8 := cellAt (S.box (b := q9) 0 rfl) 2 (v := .string ⟨#[]⟩) rfl
      have M := Lib.hid (kc_match S 3 rfl HIK.out.1 HIK.out.2 d HD.out kn HKN.out)
      clear S
      go_wp2_with fail
      refine M.out.mono ?_
      rintro e w4 ⟨rfl, S⟩
      clear M d0 d1 d2 d3 d4 d5 d6 d7 d8
      replace S : Sep w (boxR q9 (.cells #[.int .i64 4, .int .i64 kn, .string ⟨#[]⟩] 31) :: boxR q8 (.cells #[.int .i64 4, .int .i64 21, .string ⟨#[]⟩] 31) :: boxR b2 (.cells #[.int .i64 4, .int .i64 19, .string ⟨#[]⟩] 31) :: heapR h (instF i) :: strsR (.slice (some ⟨g, 0, none⟩) 17 c) (takeN 17) :: []) _ := S
      obtain ⟨q12, hq12⟩ : ∃ gx_, (w4.heap.size) = gx_ := ⟨_, rfl⟩
      replace S := (S.alloc (.cells #[.string ⟨#[]⟩, .int .i64 0, .int .i64 0, .string ⟨#[]⟩, .bool false] 35))
      simp only [World.size_alloc, hq12] at S
      replace S : Sep w (boxR q12 (.cells #[.string ⟨#[]⟩, .int .i64 0, .int .i64 0, .string ⟨#[]⟩, .bool false] 35) :: boxR q9 (.cells #[.int .i64 4, .int .i64 kn, .string ⟨#[]⟩] 31) :: boxR q8 (.cells #[.int .i64 4, .int .i64 21, .string ⟨#[]⟩] 31) :: boxR b2 (.cells #[.int .i64 4, .int .i64 19, .string ⟨#[]⟩] 31) :: heapR h (instF i) :: strsR (.slice (some ⟨g, 0, none⟩) 17 c) (takeN 17) :: []) _ := S
      obtain ⟨z, hz⟩ : ∃ z, decide (i = 0) = z := ⟨_, rfl⟩
      have hz1 : ((i : Int) == (0 : Int)) = z := by rw [← hz, Bool.eq_iff_iff, beq_iff_eq, decide_eq_true_eq]; omega
      have hz2 : decide ((i : Int) = 0) = z := by rw [← hz, Bool.eq_iff_iff, decide_eq_true_eq, decide_eq_true_eq]; omega
      have hz3 : (i == 0) = z := by rw [← hz, Bool.eq_iff_iff, beq_iff_eq, decide_eq_true_eq]
      have hz4 : (baseS (nameF i)).toList.isEmpty = z := by rw [base_empty HIK.out.1, hz]
      obtain ⟨baseA, hbaseA⟩ : ∃ base, base = boxR q12 (.cells #[.string ⟨#[]⟩, .int .i64 0, .int .i64 0, .string ⟨#[]⟩, .bool false] 35) :: boxR q9 (.cells #[.int .i64 4, .int .i64 kn, .string ⟨#[]⟩] 31) :: boxR q8 (.cells #[.int .i64 4, .int .i64 21, .string ⟨#[]⟩] 31) :: boxR b2 (.cells #[.int .i64 4, .int .i64 19, .string ⟨#[]⟩] 31) :: heapR h (instF i) :: strsR (.slice (some ⟨g, 0, none⟩) 17 c) (takeN 17) :: [] := ⟨_, rfl⟩
      have HbaseA := Lib.hid hbaseA
      have KbaseA : Hid (∀ W (Q : List Res), Sep w (Q ++ baseA) W → W.cell? ⟨q12, 0, none⟩ = some (.string ⟨#[]⟩) ∧ W.cell? ⟨q12, 1, none⟩ = some (.int .i64 0) ∧ W.cell? ⟨q12, 2, none⟩ = some (.int .i64 0) ∧ W.cell? ⟨q12, 3, none⟩ = some (.string ⟨#[]⟩) ∧ W.cell? ⟨q12, 4, none⟩ = some (.bool false) ∧ W.cell? ⟨g, i, none⟩ = some (.string (nameF i)) ∧ W.cell? ⟨g, k, none⟩ = some (.string (nameF k))) := Lib.hid fun W Q T => by
        rw [hbaseA] at T
        have i0 := T.box (b := q12) (o := .cells #[.string ⟨#[]⟩, .int .i64 0, .int .i64 0, .string ⟨#[]⟩, .bool false] 35) (Q.length + 0) (by rw [List.getElem?_append_right (by omega), Nat.add_sub_cancel_left]; rfl)
        exact ⟨cellAt i0 0 rfl, cellAt i0 1 rfl, cellAt i0 2 rfl, cellAt i0 3 rfl, cellAt i0 4 rfl, strs_cell T (Q.length + 5) (by rw [List.getElem?_append_right (by omega), Nat.add_sub_cancel_left]; rfl) HIK.out.1, strs_cell T (Q.length + 5) (by rw [List.getElem?_append_right (by omega), Nat.add_sub_cancel_left]; rfl) HIK.out.2⟩
      have KR : Hid (∀ W (Q : List Res), Sep w (Q ++ baseA) W → Calls Tryd.prog 8 #[] W fun e W' => e = .returned (.bool true) ∧ Sep w (Q ++ baseA) W') := Lib.hid fun W Q T => by
        exact raised_ok T HGL.out
      have KC : Hid (∀ W (Q : List Res), Sep w (Q ++ baseA) W → Calls Tryd.prog 20 #[.string (nameF i), .string (nameF k)] W fun e W' => e = .returned (.bool d) ∧ Sep w (Q ++ baseA) W') := Lib.hid fun W Q T => by
        exact kc_chain T HGL.out HIK.out.1 HIK.out.2 d HD.out
      have KE : Hid (∀ W (Q : List Res), Sep w (Q ++ baseA) W → Calls Tryd.prog 20 #[.string (nameF i), .string ⟨#[69, 120, 99, 101, 112, 116, 105, 111, 110]⟩] W fun e W' => e = .returned (.bool true) ∧ Sep w (Q ++ baseA) W') := Lib.hid fun W Q T => by
        exact kc_exc T HGL.out HIK.out.1
      have KB : Hid (∀ W (Q : List Res), Sep w (Q ++ baseA) W → Calls Tryd.prog 12 #[.string (nameF i)] W fun e W' => e = .returned (.string (baseS (nameF i))) ∧ Sep w (Q ++ baseA) W') := Lib.hid fun W Q T => by
        exact fbase_ok T HGL.out (nameF i)
      have BEL : Hid (∀ W (Q : List Res), Sep w (Q ++ baseA) W → Below w.heap.size w W) := Lib.hid fun W Q T => T.below
      replace S : Sep w (baseA) (w4.alloc (.cells #[.string ⟨#[]⟩, .int .i64 0, .int .i64 0, .string ⟨#[]⟩, .bool false] 35)) := by rw [hbaseA]; exact S
      replace S := Lib.hid S
      clear hbaseA
      go_upto_region 9 with fail
      try simp only [hq12]
      obtain ⟨Wd9, hW⟩ : ∃ gx_, ((w4.alloc (.cells #[.string ⟨#[]⟩, .int .i64 0, .int .i64 0, .string ⟨#[]⟩, .bool false] 35))) = gx_ := ⟨_, rfl⟩
      rw [hW] at S ⊢
      clear hW hq12
      go_cut [4] (fun s4 wx => s4 = .bool true ∧ Below w.heap.size w wx)
      case first =>
        have T0 : Sep w ([] ++ baseA) _ := S.out.drew
        clear S
        as_aux_lemma =>
          refine wp_region_held_drew (S := fun W => W.cell? ⟨q12, 0, none⟩ = some (.string ⟨#[]⟩) ∧ W.cell? ⟨q12, 1, none⟩ = some (.int .i64 0) ∧ W.cell? ⟨q12, 2, none⟩ = some (.int .i64 0) ∧ W.cell? ⟨q12, 3, none⟩ = some (.string ⟨#[]⟩) ∧ W.cell? ⟨q12, 4, none⟩ = some (.bool false) ∧ W.cell? ⟨g, i, none⟩ = some (.string (nameF i)) ∧ W.cell? ⟨g, k, none⟩ = some (.string (nameF k))) (by kernel_rfl) (KbaseA.out _ [] T0) (fun hH => ?_)
          refine readyT [0] ?_
          refine consT (fun K hK => ?_) AllReadyH.nil
          go_simp
          go_wp2_with (go_at_call 8; refine (KR.out _ [] T0).mono ?_; rintro e w1 ⟨rfl, T1⟩)
          clear hH
          refine hK.out _ _ (KbaseA.out _ [] T1) (fun hH => ?_)
          clear hK K
          refine takeT 1 hH (hy := .inl ⟨by rfl, by (intro w hSw; try obtain ⟨u0, u1, u2, u3, u4, v0⟩ := hSw); (go_simp; try rfl)⟩) (h := ?_)
          simp only [Act.put, List.setIfInBounds_toArray, List.set_cons_zero, List.set_cons_succ]
          refine takeT 2 hH (hy := .inl ⟨by rfl, by (intro w hSw; try obtain ⟨u0, u1, u2, u3, u4, v0⟩ := hSw); (go_simp; try rfl)⟩) (h := ?_)
          simp only [Act.put, List.setIfInBounds_toArray, List.set_cons_zero, List.set_cons_succ]
          refine takeT 3 hH (hy := .inl ⟨by rfl, by (intro w hSw; try obtain ⟨u0, u1, u2, u3, u4, v0⟩ := hSw); (go_simp; try rfl)⟩) (h := ?_)
          simp only [Act.put, List.setIfInBounds_toArray, List.set_cons_zero, List.set_cons_succ]
          refine takeT 4 hH (hy := .inl ⟨by rfl, by (intro w hSw; try obtain ⟨u0, u1, u2, u3, u4, v0⟩ := hSw); (go_simp; try rfl)⟩) (h := ?_)
          simp only [Act.put, List.setIfInBounds_toArray, List.set_cons_zero, List.set_cons_succ]
          refine takeT 5 hH (hy := .inl ⟨by rfl, by (intro w hSw; try obtain ⟨u0, u1, u2, u3, u4, v0⟩ := hSw); (go_simp; try rfl)⟩) (h := ?_)
          simp only [Act.put, List.setIfInBounds_toArray, List.set_cons_zero, List.set_cons_succ]
          refine takeT 6 hH (hy := .inl ⟨by rfl, by (intro w hSw; try obtain ⟨u0, u1, u2, u3, u4, v0⟩ := hSw); (go_simp; try rfl)⟩) (h := ?_)
          simp only [Act.put, List.setIfInBounds_toArray, List.set_cons_zero, List.set_cons_succ]
          refine takeT 7 hH (hy := .inl ⟨by rfl, by (intro w hSw; try obtain ⟨u0, u1, u2, u3, u4, v0⟩ := hSw); (go_simp; try rfl)⟩) (h := ?_)
          simp only [Act.put, List.setIfInBounds_toArray, List.set_cons_zero, List.set_cons_succ]
          refine takeT 8 hH (hy := .inl ⟨by rfl, by (intro w hSw; try obtain ⟨u0, u1, u2, u3, u4, v0⟩ := hSw); (go_simp; try rfl)⟩) (h := ?_)
          simp only [Act.put, List.setIfInBounds_toArray, List.set_cons_zero, List.set_cons_succ]
          refine takeT 9 hH (hy := .inl ⟨by rfl, by (intro w hSw; try obtain ⟨u0, u1, u2, u3, u4, v0⟩ := hSw); (go_simp; try rfl)⟩) (h := ?_)
          simp only [Act.put, List.setIfInBounds_toArray, List.set_cons_zero, List.set_cons_succ]
          refine takeT 10 hH (hy := .inl ⟨by rfl, by (intro w hSw; try obtain ⟨u0, u1, u2, u3, u4, v0⟩ := hSw); (go_simp; try rfl)⟩) (h := ?_)
          simp only [Act.put, List.setIfInBounds_toArray, List.set_cons_zero, List.set_cons_succ]
          refine takeT 11 hH (hy := .inl ⟨by rfl, by (intro w hSw; try obtain ⟨u0, u1, u2, u3, u4, v0⟩ := hSw); (go_simp; try rfl)⟩) (h := ?_)
          simp only [Act.put, List.setIfInBounds_toArray, List.set_cons_zero, List.set_cons_succ]
          refine takeT 12 hH (hy := .inl ⟨by rfl, by (intro w hSw; try obtain ⟨u0, u1, u2, u3, u4, v0⟩ := hSw); (go_simp; try rfl)⟩) (h := ?_)
          simp only [Act.put, List.setIfInBounds_toArray, List.set_cons_zero, List.set_cons_succ]
          refine takeT 13 hH (hy := .inl ⟨by rfl, by (intro w hSw; try obtain ⟨u0, u1, u2, u3, u4, v0⟩ := hSw); (go_simp; try rfl)⟩) (h := ?_)
          simp only [Act.put, List.setIfInBounds_toArray, List.set_cons_zero, List.set_cons_succ]
          refine takeT 14 hH (hy := .inl ⟨by rfl, by (intro w hSw; try obtain ⟨u0, u1, u2, u3, u4, v0⟩ := hSw); (go_simp; try rfl)⟩) (h := ?_)
          simp only [Act.put, List.setIfInBounds_toArray, List.set_cons_zero, List.set_cons_succ]
          refine takeT 15 hH (hy := .inl ⟨by rfl, by (intro w hSw; try obtain ⟨u0, u1, u2, u3, u4, v0⟩ := hSw); (go_simp; try rfl)⟩) (h := ?_)
          simp only [Act.put, List.setIfInBounds_toArray, List.set_cons_zero, List.set_cons_succ]
          refine takeT 16 hH (hy := .inl ⟨by rfl, by (intro w hSw; try obtain ⟨u0, u1, u2, u3, u4, v0⟩ := hSw); (go_simp; try rfl)⟩) (h := ?_)
          simp only [Act.put, List.setIfInBounds_toArray, List.set_cons_zero, List.set_cons_succ]
          refine takeT 17 hH (hy := .inl ⟨by rfl, by (intro w hSw; try obtain ⟨u0, u1, u2, u3, u4, v0⟩ := hSw); (go_simp; try rfl)⟩) (h := ?_)
          simp only [Act.put, List.setIfInBounds_toArray, List.set_cons_zero, List.set_cons_succ]
          refine takeT 18 hH (hy := .inl ⟨by rfl, by (intro w hSw; try obtain ⟨u0, u1, u2, u3, u4, v0⟩ := hSw); (go_simp; try rfl)⟩) (h := ?_)
          simp only [Act.put, List.setIfInBounds_toArray, List.set_cons_zero, List.set_cons_succ]
          refine readyT [19] ?_
          refine consT (fun K hK => ?_) AllReadyH.nil
          go_simp
          go_wp2_with (go_at_call 20; refine (KC.out _ [] T1).mono ?_; rintro e w2 ⟨rfl, T2⟩)
          clear hH
          refine hK.out _ _ (KbaseA.out _ [] T2) (fun hH => ?_)
          clear hK K
          refine takeT 20 hH (hy := .inl ⟨by rfl, by (intro w hSw; try obtain ⟨u0, u1, u2, u3, u4, v0⟩ := hSw); (go_simp; try rfl)⟩) (h := ?_)
          simp only [Act.put, List.setIfInBounds_toArray, List.set_cons_zero, List.set_cons_succ]
          refine takeT 21 hH (hy := .inl ⟨by rfl, by (intro w hSw; try obtain ⟨u0, u1, u2, u3, u4, v0⟩ := hSw); (go_simp; try rfl)⟩) (h := ?_)
          simp only [Act.put, List.setIfInBounds_toArray, List.set_cons_zero, List.set_cons_succ]
          refine takeT 22 hH (hy := .inl ⟨by rfl, by (intro w hSw; try obtain ⟨u0, u1, u2, u3, u4, v0⟩ := hSw); (go_simp; try rfl)⟩) (h := ?_)
          simp only [Act.put, List.setIfInBounds_toArray, List.set_cons_zero, List.set_cons_succ]
          refine takeT 23 hH (hy := .inl ⟨by rfl, by (intro w hSw; try obtain ⟨u0, u1, u2, u3, u4, v0⟩ := hSw); (go_simp; try rfl)⟩) (h := ?_)
          simp only [Act.put, List.setIfInBounds_toArray, List.set_cons_zero, List.set_cons_succ]
          refine takeT 24 hH (hy := .inl ⟨by rfl, by (intro w hSw; try obtain ⟨u0, u1, u2, u3, u4, v0⟩ := hSw); (go_simp; try rfl)⟩) (h := ?_)
          simp only [Act.put, List.setIfInBounds_toArray, List.set_cons_zero, List.set_cons_succ]
          refine takeT 25 hH (hy := .inl ⟨by rfl, by (intro w hSw; try obtain ⟨u0, u1, u2, u3, u4, v0⟩ := hSw); (go_simp; try rfl)⟩) (h := ?_)
          simp only [Act.put, List.setIfInBounds_toArray, List.set_cons_zero, List.set_cons_succ]
          refine takeT 26 hH (hy := .inl ⟨by rfl, by (intro w hSw; try obtain ⟨u0, u1, u2, u3, u4, v0⟩ := hSw); (go_simp; try rfl)⟩) (h := ?_)
          simp only [Act.put, List.setIfInBounds_toArray, List.set_cons_zero, List.set_cons_succ]
          refine readyT [27] ?_
          refine consT (fun K hK => ?_) AllReadyH.nil
          go_simp
          go_wp2_with (go_at_call 20; refine (KE.out _ [] T2).mono ?_; rintro e w3 ⟨rfl, T3⟩)
          clear hH
          refine hK.out _ _ (KbaseA.out _ [] T3) (fun hH => ?_)
          clear hK K
          refine takeT 28 hH (hy := .inl ⟨by rfl, by (intro w hSw; try obtain ⟨u0, u1, u2, u3, u4, v0⟩ := hSw); (go_simp; try rfl)⟩) (h := ?_)
          simp only [Act.put, List.setIfInBounds_toArray, List.set_cons_zero, List.set_cons_succ]
          refine takeT 29 hH (hy := .inl ⟨by rfl, by (intro w hSw; try obtain ⟨u0, u1, u2, u3, u4, v0⟩ := hSw); (go_simp; try rfl)⟩) (h := ?_)
          simp only [Act.put, List.setIfInBounds_toArray, List.set_cons_zero, List.set_cons_succ]
          refine takeT 30 hH (hy := .inl ⟨by rfl, by (intro w hSw; try obtain ⟨u0, u1, u2, u3, u4, v0⟩ := hSw); (go_simp; try rfl)⟩) (h := ?_)
          simp only [Act.put, List.setIfInBounds_toArray, List.set_cons_zero, List.set_cons_succ]
          refine takeT 31 hH (hy := .inl ⟨by rfl, by (intro w hSw; try obtain ⟨u0, u1, u2, u3, u4, v0⟩ := hSw); (go_simp; try rfl)⟩) (h := ?_)
          simp only [Act.put, List.setIfInBounds_toArray, List.set_cons_zero, List.set_cons_succ]
          refine takeT 32 hH (hy := .inl ⟨by rfl, by (intro w hSw; try obtain ⟨u0, u1, u2, u3, u4, v0⟩ := hSw); (go_simp; try rfl)⟩) (h := ?_)
          simp only [Act.put, List.setIfInBounds_toArray, List.set_cons_zero, List.set_cons_succ]
          refine takeT 33 hH (hy := .inl ⟨by rfl, by (intro w hSw; try obtain ⟨u0, u1, u2, u3, u4, v0⟩ := hSw); (go_simp; try rfl)⟩) (h := ?_)
          simp only [Act.put, List.setIfInBounds_toArray, List.set_cons_zero, List.set_cons_succ]
          refine takeT 34 hH (hy := .inl ⟨by rfl, by (intro w hSw; try obtain ⟨u0, u1, u2, u3, u4, v0⟩ := hSw); (go_simp; try rfl)⟩) (h := ?_)
          simp only [Act.put, List.setIfInBounds_toArray, List.set_cons_zero, List.set_cons_succ]
          refine takeT 35 hH (hy := .inl ⟨by rfl, by (intro w hSw; try obtain ⟨u0, u1, u2, u3, u4, v0⟩ := hSw); (go_simp; try rfl)⟩) (h := ?_)
          simp only [Act.put, List.setIfInBounds_toArray, List.set_cons_zero, List.set_cons_succ]
          refine readyT [36] ?_
          refine consT (fun K hK => ?_) AllReadyH.nil
          go_simp
          go_wp2_with (go_at_call 12; refine (KB.out _ [] T3).mono ?_; rintro e w4 ⟨rfl, T4⟩)
          clear hH
          refine hK.out _ _ (KbaseA.out _ [] T4) (fun hH => ?_)
          clear hK K
          refine takeT 37 hH (hy := .inl ⟨by rfl, by (intro w hSw; try obtain ⟨u0, u1, u2, u3, u4, v0⟩ := hSw); (go_simp; try rfl)⟩) (h := ?_)
          simp only [Act.put, List.setIfInBounds_toArray, List.set_cons_zero, List.set_cons_succ]
          refine takeT 38 hH (hy := .inl ⟨by rfl, by (intro w hSw; try obtain ⟨u0, u1, u2, u3, u4, v0⟩ := hSw); (go_simp; try rfl)⟩) (h := ?_)
          simp only [Act.put, List.setIfInBounds_toArray, List.set_cons_zero, List.set_cons_succ]
          refine takeT 39 hH (hy := .inl ⟨by rfl, by (intro w hSw; try obtain ⟨u0, u1, u2, u3, u4, v0⟩ := hSw); (go_simp; try rfl)⟩) (h := ?_)
          simp only [Act.put, List.setIfInBounds_toArray, List.set_cons_zero, List.set_cons_succ]
          refine takeT 40 hH (hy := .inl ⟨by rfl, by (intro w hSw; try obtain ⟨u0, u1, u2, u3, u4, v0⟩ := hSw); (go_simp; try rfl)⟩) (h := ?_)
          simp only [Act.put, List.setIfInBounds_toArray, List.set_cons_zero, List.set_cons_succ]
          refine wpAnyH_done (by kernel_rfl) ?_ _
          as_aux_lemma =>
            go_wp2_with fail
            go_meet
            exact ⟨rfl, T4.below⟩
      case rest =>
        obtain ⟨rfl, hB⟩ := hcut
        have HB := Lib.hid hB
        clear hB
        go_wp2
        go_ret
        exact ⟨rfl, HB.out⟩
set_option maxRecDepth 100000 in
set_option maxHeartbeats 3200000 in
theorem walk_out (w : World) (hG : GlobF w) (i k : Int) (hc : i < 0 ∨ (0 ≤ i ∧ 17 ≤ i) ∨ (0 ≤ i ∧ i < 17 ∧ k < 0) ∨ (0 ≤ i ∧ i < 17 ∧ 0 ≤ k ∧ 17 ≤ k)) : Calls Tryd.prog 4 #[.int .i64 i, .int .i64 k] w fun e W' => e = .returned (.bool true) ∧ Below w.heap.size w W' := by
  have HGL := Lib.hid hG
  have M := Lib.hid (fnames_ok (Sep.start (Below.refl w.heap.size w)) hG)
  clear hG
  rcases hc with c1 | ⟨c1, c2⟩ | ⟨c1, c2, c3⟩ | ⟨c1, c2, c3, c4⟩
  · go_enter Tryd.func4, Tryd.ntmps4
    go_wp2_with fail
    refine M.out.mono ?_
    rintro e w1 ⟨a, c, rfl, S⟩
    clear M
    have M := Lib.hid S.new
    clear S
    go_wp2_with fail
    refine M.out.mono ?_
    rintro e w2 ⟨h, rfl, S, -⟩
    clear M
    have M := Lib.hid (raised_ok S HGL.out)
    clear S
    go_wp2_with fail
    refine M.out.mono ?_
    rintro e w3 ⟨rfl, S⟩
    clear M
    have HS := Lib.hid S.below
    clear S
    go_wp2
    go_ret
    exact ⟨rfl, HS.out⟩
  · go_enter Tryd.func4, Tryd.ntmps4
    go_wp2_with fail
    refine M.out.mono ?_
    rintro e w1 ⟨a, c, rfl, S⟩
    clear M
    have M := Lib.hid S.new
    clear S
    go_wp2_with fail
    refine M.out.mono ?_
    rintro e w2 ⟨h, rfl, S, -⟩
    clear M
    have M := Lib.hid (raised_ok S HGL.out)
    clear S
    go_wp2_with fail
    refine M.out.mono ?_
    rintro e w3 ⟨rfl, S⟩
    clear M
    have HS := Lib.hid S.below
    clear S
    go_wp2
    go_ret
    exact ⟨rfl, HS.out⟩
  · go_enter Tryd.func4, Tryd.ntmps4
    go_wp2_with fail
    refine M.out.mono ?_
    rintro e w1 ⟨a, c, rfl, S⟩
    clear M
    have M := Lib.hid S.new
    clear S
    go_wp2_with fail
    refine M.out.mono ?_
    rintro e w2 ⟨h, rfl, S, -⟩
    clear M
    have M := Lib.hid (raised_ok S HGL.out)
    clear S
    go_wp2_with fail
    refine M.out.mono ?_
    rintro e w3 ⟨rfl, S⟩
    clear M
    have HS := Lib.hid S.below
    clear S
    go_wp2
    go_ret
    exact ⟨rfl, HS.out⟩
  · go_enter Tryd.func4, Tryd.ntmps4
    go_wp2_with fail
    refine M.out.mono ?_
    rintro e w1 ⟨a, c, rfl, S⟩
    clear M
    have M := Lib.hid S.new
    clear S
    go_wp2_with fail
    refine M.out.mono ?_
    rintro e w2 ⟨h, rfl, S, -⟩
    clear M
    have M := Lib.hid (raised_ok S HGL.out)
    clear S
    go_wp2_with fail
    refine M.out.mono ?_
    rintro e w3 ⟨rfl, S⟩
    clear M
    have HS := Lib.hid S.below
    clear S
    go_wp2
    go_ret
    exact ⟨rfl, HS.out⟩
theorem walk (w : World) (hG : GlobF w) (i k : Int) : Calls Tryd.prog 4 #[.int .i64 i, .int .i64 k] w fun e W' => e = .returned (.bool true) ∧ Below w.heap.size w W' := by
  by_cases h : 0 ≤ i ∧ i < 17 ∧ 0 ≤ k ∧ k < 17
  · obtain ⟨h1, h2, h3, h4⟩ := h
    obtain ⟨i', rfl⟩ : ∃ n : Nat, i = n := ⟨i.toNat, by omega⟩
    obtain ⟨k', rfl⟩ : ∃ n : Nat, k = n := ⟨k.toNat, by omega⟩
    exact walk_at w hG i' k' (by omega) (by omega)
  · exact walk_out w hG i k (by omega)
theorem witness_row (os : Os) {H : Type} (enc : TypeId × Value → H) :
    (OpenSpec.ofChange Rows.faultChainsSpec).preRow enc Tryd.prog Tryd.f4 Rows.faultChainsRow.domain false Rows.faultChainsRow.laid ((laidWorld os).forCall (fun _ _ => 0) ⟨#[], #[.int .i64 0, .int .i64 0], []⟩).memory #[.int .i64 0, .int .i64 0] := by
  have hw : (DataW.whole enc Tryd.prog ((laidWorld os).forCall (fun _ _ => 0) ⟨#[], #[.int .i64 0, .int .i64 0], []⟩).memory Tryd.f4.params.toList (OpenSpec.ofChange Rows.faultChainsSpec).vars false #[.int .i64 0, .int .i64 0].toList 8).map (fun x => (x.1, x.2.1)) =
      some ([.lit (.int .i64 0), .lit (.int .i64 0)], []) := by kernel_rfl
  obtain ⟨⟨x1, x2, x3⟩, hx, hx1⟩ := Option.map_eq_some_iff.1 hw
  simp only [Prod.mk.injEq] at hx1
  obtain ⟨rfl, rfl⟩ := hx1
  exact OpenSpec.preRow_of_cond 8 hx (by kernel_rfl) (fun k hk => by cases hk) (by kernel_rfl) (laid_met os _)
set_option maxRecDepth 100000 in
theorem lifted (os : Os) (started : os.Started) (H : Type) (enc : TypeId × Value → H) (F : Stop.Interp) :
    ReturnsInHanded {} Tryd.checked os 4 .any ((OpenSpec.ofChange Rows.faultChainsSpec).preRow enc Tryd.prog Tryd.f4 Rows.faultChainsRow.domain false Rows.faultChainsRow.laid) (((OpenSpec.ofChange Rows.faultChainsSpec).at F).post enc Tryd.prog Tryd.f4 false true false false) := by
  refine law_lift_laid (C := Tryd.checked) own started (by kernel_rfl) Tryd.func4
    (witness_row_atRef (enc := enc) (C := Tryd.checked) false (laidWorld os) #[.int .i64 0, .int .i64 0] rfl (by kernel_rfl) (by kernel_rfl) (by kernel_rfl) (witness_row os enc))
    (by kernel_rfl) (by kernel_rfl) rfl (fun ds h => by
      match ds, h with
      | [d1, d2], _ => exact ⟨rfl, rfl, rfl⟩) rfl Tryd.underlying4 ?_
  intro W base args ds ps hval hA hlt hwt hL hsh
  rw [Tryd.params4] at hA hval
  obtain ⟨v0, vs0, d0, ds0, p0, q0, hargs, rfl, rfl, h0, r0⟩ := trodAll_cons hA
  obtain ⟨v1, vs1, d1, ds1, p1, q1, rfl, rfl, rfl, h1, r1⟩ := trodAll_cons r0
  obtain ⟨rfl, rfl, rfl⟩ := trodAll_nil r1
  obtain rfl : args = #[v0, v1] := by cases args; simp_all
  obtain ⟨a0, rfl, rfl, rfl, w0⟩ := open_int Tryd.underlying3 (hval 0 3 v0 rfl rfl) h0
  obtain ⟨a1, rfl, rfl, rfl, w1⟩ := open_int Tryd.underlying3 (hval 1 3 v1 rfl rfl) h1
  exact walk W (globF hL hsh) a0 a1
theorem said : Rows.FaultChainsSaid :=
  OpenClaim.holds_of_cond 4 Tryd.f4 rfl rfl rfl rfl rfl rfl rfl ⟨rfl, rfl, rfl, rfl, rfl⟩ rfl rfl rfl rfl rfl (by kernel_rfl) Tryd.func4 (by kernel_rfl)
    (of_decide_eq_true (by kernel_rfl)) (by unfold Func.isWrapper; first | (rw [if_pos (by decide +kernel)]; kernel_rfl) | (rw [if_neg (by decide +kernel)]; exact ⟨rfl, rfl⟩))
    (fun os started H enc _ F => by rw [OpenClaim.pre_eq_preRow]; exact lifted os started H enc F)
theorem plain (f : FuncId) (fn : Func) (hf : Tryd.pinned.checked.prog.funcNamed "krait/kraitlaw15.FaultChains" = some f) (hfn : Tryd.pinned.checked.prog.funcs[f]? = some fn) :
    false = Tryd.pinned.checked.prog.looks [] ∧ ∀ (j : Nat) t, fn.params[j]? = some t → Tryd.pinned.checked.prog.wantsStandIn t = false := by
  obtain rfl : f = 4 := Option.some.inj ((show Tryd.prog.funcNamed "krait/kraitlaw15.FaultChains" = some 4 by kernel_rfl).symm.trans hf) |>.symm
  obtain rfl : fn = Tryd.f4 := (Option.some.inj (Tryd.func4.symm.trans hfn)).symm
  refine ⟨by kernel_rfl, fun j t ht => ?_⟩
  rw [Tryd.params4] at ht
  have hm := Array.mem_of_getElem? ht
  simp at hm
  subst hm
  exact (show Tryd.prog.wantsStandIn 3 = false by kernel_rfl)
theorem proved : Rows.FaultChainsCardSaid :=
  Claim7.holds_tied_plain_at .later [] _ _ _ _ said (fun _ h => by cases h) (by kernel_rfl) (fun _ h => by cases h) faultChains_row_tie rfl ⟨rfl, rfl⟩ (by kernel_rfl) rfl plain (by kernel_rfl)
#print axioms proved
end Go.Proofs.YtobcnffjfclolaaDoor.faultChains

