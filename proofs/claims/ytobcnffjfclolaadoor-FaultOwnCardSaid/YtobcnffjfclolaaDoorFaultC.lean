import Derived.Test.YtobcnffjfclolaaDoorFaultA
import Derived.Test.YtobcnffjfclolaaDoorObjF
import Derived.Test.YtobcnffjfclolaaDoorObjS
import Derived.Test.YtobcnffjfclolaaDoorRegI
import Derived.Test.YtobcnffjfclolaaDoorFaultB
/- fault: class, IsClass, Is, Make. -/
namespace Go.Proofs.YtobcnffjfclolaaDoor
set_option linter.unusedSimpArgs false
open Go.RowKit
set_option linter.unusedVariables false
section
variable {w W : World} {Rs : List Res} {h : Nat} {H : HeapM}
theorem ftext_ok (W : World) (s : ByteArray) : Calls Tryd.prog 38 #[.string s] W fun e W' => e = .returned (.agg #[.int .i64 3, .int .i64 0, .string s]) ∧ Below W.heap.size W W' := by
  go_enter Tryd.func38, Tryd.ntmps38
  go_wp2
  exact bodyPost_ret (v := .agg #[.int .i64 3, .int .i64 0, .string s]) (by simp [results, Tryd.results38, go_sem]) rfl ⟨rfl, by (repeat (first | exact Below.refl _ _ | assumption | refine Below.drewN ?_ _ | refine Below.drew ?_ | refine Below.alloc ?_ (by (try simp only [World.size_alloc, size_drewN, size_setCell]); omega) _ | refine Below.setCell ?_ (by (try simp only [World.size_alloc, size_drewN, size_setCell]); omega) _))⟩
theorem ltext_ok (W : World) (s : ByteArray) : Calls Tryd.prog 18 #[.string s] W fun e W' => e = .returned (.agg #[.int .i64 3, .int .i64 0, .string s]) ∧ Below W.heap.size W W' := by
  go_enter Tryd.func18, Tryd.ntmps18
  go_wp2
  exact bodyPost_ret (v := .agg #[.int .i64 3, .int .i64 0, .string s]) (by simp [results, Tryd.results18, go_sem]) rfl ⟨rfl, by (repeat (first | exact Below.refl _ _ | assumption | refine Below.drewN ?_ _ | refine Below.drew ?_ | refine Below.alloc ?_ (by (try simp only [World.size_alloc, size_drewN, size_setCell]); omega) _ | refine Below.setCell ?_ (by (try simp only [World.size_alloc, size_drewN, size_setCell]); omega) _))⟩
set_option maxRecDepth 100000 in
set_option maxHeartbeats 3200000 in
theorem fclass_ok (S : Sep w Rs W) (i : Nat) (hi : Rs[i]? = some (heapR h H)) (v : V) (s : ByteArray) (hs : s.size ≤ maxLen) :
    Calls Tryd.prog 40 #[.pointer (some ⟨h, 0, none⟩), v.val, .string s] W fun e W' => e = .returned (.tuple #[((H.get v (keyS s hs)).getD V.zero).val, .bool (H.classF v s hs).isSome]) ∧ Sep w Rs W' := by
  obtain ⟨b, hb⟩ : ∃ gx_, (W.heap.size) = gx_ := ⟨_, rfl⟩
  have S2 := (S.alloc (.cells #[.int .i64 v.kind, .int .i64 v.n, .string v.s] 31)).alloc (.cells #[.int .i64 0, .int .i64 0, .string ⟨#[]⟩] 31)
  simp only [World.size_alloc, hb] at S2
  have hcf : (H.classF v s hs).isSome = (match H.get v (keyS s hs) with | some c => decide (H.kind c = 5) | none => false) := by
    unfold HeapM.classF
    cases g : H.get v (keyS s hs) with
    | none => rfl
    | some c => by_cases e : H.kind c = 5 <;> simp [Option.filter, e]
  obtain ⟨cf, hcf2⟩ : ∃ gx_, ((H.classF v s hs).isSome) = gx_ := ⟨_, rfl⟩
  rw [hcf2] at hcf
  rw [hcf2]
  obtain ⟨g, hg⟩ : ∃ g, H.get v (keyS s hs) = g := ⟨_, rfl⟩
  rw [hg] at hcf
  rw [hg]
  have HCF := Lib.hid hcf
  have HGG := Lib.hid hg
  have HII := Lib.hid hi
  clear S hcf hcf2 hg
  obtain ⟨gk, hgk⟩ : ∃ x, x = (g.getD V.zero).kind := ⟨_, rfl⟩
  obtain ⟨gn, hgn⟩ : ∃ x, x = (g.getD V.zero).n := ⟨_, rfl⟩
  obtain ⟨gs, hgs⟩ : ∃ x, x = (g.getD V.zero).s := ⟨_, rfl⟩
  have HG3 := Lib.hid (And.intro hgk (And.intro hgn hgs))
  simp only [V.val]
  rw [← hgk, ← hgn, ← hgs]
  have S : Sep w (boxR (b + 1) (.cells #[.int .i64 0, .int .i64 0, .string ⟨#[]⟩] 31) :: boxR b (.cells #[.int .i64 v.kind, .int .i64 v.n, .string v.s] 31) :: Rs) _ := S2
  clear S2
  obtain ⟨baseA, hbaseA⟩ : ∃ base, base = boxR (b + 1) (.cells #[.int .i64 0, .int .i64 0, .string ⟨#[]⟩] 31) :: boxR b (.cells #[.int .i64 v.kind, .int .i64 v.n, .string v.s] 31) :: Rs := ⟨_, rfl⟩
  have HbaseA := Lib.hid hbaseA
  have KbaseA : Hid (∀ W (Q : List Res), Sep w (Q ++ baseA) W → W.cell? ⟨b, 0, none⟩ = some (.int .i64 v.kind) ∧ W.cell? ⟨b, 1, none⟩ = some (.int .i64 v.n) ∧ W.cell? ⟨b, 2, none⟩ = some (.string v.s)) := Lib.hid fun W Q T => by
    rw [hbaseA] at T
    have i0 := T.box (b := b) (o := .cells #[.int .i64 v.kind, .int .i64 v.n, .string v.s] 31) (Q.length + 1) (by rw [List.getElem?_append_right (by omega), Nat.add_sub_cancel_left]; rfl)
    exact ⟨cellAt i0 0 rfl, cellAt i0 1 rfl, cellAt i0 2 rfl⟩
  have KY : Hid (∀ W (Q : List Res), Sep w (Q ++ baseA) W → Calls Tryd.prog 38 #[.string s] W fun e W' => e = .returned (.agg #[.int .i64 3, .int .i64 0, .string s]) ∧ Sep w (Q ++ baseA) W') := Lib.hid fun W Q T => by
    exact (ftext_ok W _).mono fun e W' ⟨e1, e2⟩ => ⟨e1, T.later e2⟩
  have KG : Hid (∀ W (Q : List Res), Sep w (Q ++ baseA) W → Calls Tryd.prog 17 #[.pointer (some ⟨h, 0, none⟩), .agg #[.int .i64 v.kind, .int .i64 v.n, .string v.s], .agg #[.int .i64 3, .int .i64 0, .string s]] W fun e W' => e = .returned (.tuple #[.agg #[.int .i64 gk, .int .i64 gn, .string gs], .bool g.isSome]) ∧ Sep w (Q ++ baseA) W') := Lib.hid fun W Q T => by
    have hi := HII.out
    rw [HbaseA.out] at T ⊢
    have hh := T.get_ (Q.length + (i + 2)) (by rw [List.getElem?_append_right (by omega), Nat.add_sub_cancel_left]; simpa using hi) v (keyS s hs)
    rw [HGG.out] at hh
    rw [HG3.out.1, HG3.out.2.1, HG3.out.2.2]
    exact hh.mono fun e W' ⟨e1, e2, _⟩ => ⟨e1, e2⟩
  clear hgk hgn hgs hi
  go_enter Tryd.func40, Tryd.ntmps40
  replace S : Sep w (baseA) ((W.alloc (.cells #[.int .i64 v.kind, .int .i64 v.n, .string v.s] 31)).alloc (.cells #[.int .i64 0, .int .i64 0, .string ⟨#[]⟩] 31)) := by rw [hbaseA]; exact S
  replace S := Lib.hid S
  clear hbaseA
  go_upto_region 1 with fail
  try simp only [hb]
  obtain ⟨Wd1, hW⟩ : ∃ gx_, (((W.alloc (.cells #[.int .i64 v.kind, .int .i64 v.n, .string v.s] 31)).alloc (.cells #[.int .i64 0, .int .i64 0, .string ⟨#[]⟩] 31))) = gx_ := ⟨_, rfl⟩
  rw [hW] at S ⊢
  clear hW hb
  go_cut [8, 9] (fun s8 s9 wx => ∃ qx, s8 = .pointer (some ⟨qx, 0, none⟩) ∧ s9 = .bool g.isSome ∧ Sep w (boxR qx (.cells #[.int .i64 gk, .int .i64 gn, .string gs] 31) :: baseA) wx)
  case first =>
    have T0 : Sep w ([] ++ baseA) _ := S.out.drew
    clear S
    as_aux_lemma =>
      refine wp_region_held_drew (S := fun W => W.cell? ⟨b, 0, none⟩ = some (.int .i64 v.kind) ∧ W.cell? ⟨b, 1, none⟩ = some (.int .i64 v.n) ∧ W.cell? ⟨b, 2, none⟩ = some (.string v.s)) (by kernel_rfl) (KbaseA.out _ [] T0) (fun hH => ?_); refine takeT 0 hH (hy := .inl ⟨by rfl, by (intro w hSw; try obtain ⟨u0, u1, u2⟩ := hSw); (go_simp; try rfl)⟩) (h := ?_); simp only [Act.put, List.setIfInBounds_toArray, List.set_cons_zero, List.set_cons_succ]; refine takeT 1 hH (hy := .inl ⟨by rfl, by (intro w hSw; try obtain ⟨u0, u1, u2⟩ := hSw); (go_simp; try rfl)⟩) (h := ?_); simp only [Act.put, List.setIfInBounds_toArray, List.set_cons_zero, List.set_cons_succ]; refine takeT 2 hH (hy := .inl ⟨by rfl, by (intro w hSw; try obtain ⟨u0, u1, u2⟩ := hSw); (go_simp; try rfl)⟩) (h := ?_); simp only [Act.put, List.setIfInBounds_toArray, List.set_cons_zero, List.set_cons_succ]; refine readyT [3, 8] ?_; refine consT (fun K hK => ?_) (consT (fun K hK => ?_) AllReadyH.nil)
      · go_simp
        go_wp2_with (go_at_call 38; refine (KY.out _ [] T0).mono ?_; rintro e w1 ⟨rfl, T1⟩); clear hH; refine hK.out _ _ (KbaseA.out _ [] T1) (fun hH => ?_); clear hK K; refine readyT [4, 8] ?_; refine consT (fun K hK => ?_) (consT (fun K hK => ?_) AllReadyH.nil)
        · go_simp
          go_wp2_with (go_at_call 17; refine (KG.out _ [] T1).mono ?_; rintro e w2 ⟨rfl, T2⟩); clear hH; refine hK.out _ _ (KbaseA.out _ [] T2) (fun hH => ?_); clear hK K; refine takeT 5 hH (hy := .inl ⟨by rfl, by (intro w hSw; try obtain ⟨u0, u1, u2⟩ := hSw); (go_simp; try rfl)⟩) (h := ?_); simp only [Act.put, List.setIfInBounds_toArray, List.set_cons_zero, List.set_cons_succ]; refine takeT 6 hH (hy := .inl ⟨by rfl, by (intro w hSw; try obtain ⟨u0, u1, u2⟩ := hSw); (go_simp; try rfl)⟩) (h := ?_); simp only [Act.put, List.setIfInBounds_toArray, List.set_cons_zero, List.set_cons_succ]; refine takeT 7 hH (hy := .inl ⟨by rfl, by (intro w hSw; try obtain ⟨u0, u1, u2⟩ := hSw); (go_simp; try rfl)⟩) (h := ?_); simp only [Act.put, List.setIfInBounds_toArray, List.set_cons_zero, List.set_cons_succ]; refine readyT [8] ?_; refine consT (fun K hK => ?_) AllReadyH.nil; go_simp
          have T3 : Sep w ([boxR _ (.cells #[.int .i64 0, .int .i64 0, .string ⟨#[]⟩] 31)] ++ baseA) _ := Sep.alloc T2 (.cells #[.int .i64 0, .int .i64 0, .string ⟨#[]⟩] 31); (try simp only [size_drew, World.size_alloc] at T3); clear hH; refine hK.out _ _ (KbaseA.out _ [_] T3) (fun hH => ?_); clear hK K; refine readyT [9] ?_; refine consT (fun K hK => ?_) AllReadyH.nil
          have hz := T3.box 0 rfl; have z0 := cellAt hz 0 (v := .int .i64 0) rfl; have z1 := cellAt hz 1 (v := .int .i64 0) rfl; have z2 := cellAt hz 2 (v := .string ⟨#[]⟩) rfl; have z3 := frozenAt hz 0; have z4 := frozenAt hz 1; have z5 := frozenAt hz 2
          (try simp only [World.cell?_drew, World.frozen?_drew] at z0 z1 z2 z3 z4 z5); go_simp; clear hz z0 z1 z2 z3 z4 z5; clear hH
          first | (have T4 : Sep w ([boxR _ (.cells #[.int .i64 gk, .int .i64 gn, .string gs] 31)] ++ baseA) _ := (Sep.alloc T2 (.cells #[.int .i64 gk, .int .i64 gn, .string gs] 31)); (try simp only [size_drew, World.size_alloc] at T4); refine hK.out _ _ (KbaseA.out _ [_] T4) (fun hH => ?_)) | (have T4 : Sep w ([boxR _ (.cells #[.int .i64 gk, .int .i64 gn, .string gs] 31)] ++ baseA) _ := (Sep.setBox (cs := #[.int .i64 gk, .int .i64 gn, .string ⟨#[]⟩]) (t := 31) (Sep.setBox (cs := #[.int .i64 gk, .int .i64 0, .string ⟨#[]⟩]) (t := 31) (Sep.setBox (cs := #[.int .i64 0, .int .i64 0, .string ⟨#[]⟩]) (t := 31) T3 0 rfl 0 (.int .i64 gk)) 0 rfl 1 (.int .i64 gn)) 0 rfl 2 (.string gs)); (try simp only [size_drew, World.size_alloc] at T4); refine hK.out _ _ (KbaseA.out _ [_] T4) (fun hH => ?_))
          clear hK K; refine takeT 10 hH (hy := .inl ⟨by rfl, by (intro w hSw; try obtain ⟨u0, u1, u2⟩ := hSw); (go_simp; try rfl)⟩) (h := ?_); simp only [Act.put, List.setIfInBounds_toArray, List.set_cons_zero, List.set_cons_succ]
          refine wpAnyH_done (by kernel_rfl) ?_ _
          as_aux_lemma =>
            go_wp2_with fail
            go_meet
            exact ⟨_, rfl, rfl, T4⟩
        · go_simp
          have T5 : Sep w ([boxR _ (.cells #[.int .i64 0, .int .i64 0, .string ⟨#[]⟩] 31)] ++ baseA) _ := Sep.alloc T1 (.cells #[.int .i64 0, .int .i64 0, .string ⟨#[]⟩] 31); (try simp only [size_drew, World.size_alloc] at T5); clear hH; refine hK.out _ _ (KbaseA.out _ [_] T5) (fun hH => ?_); clear hK K; refine readyT [4] ?_; refine consT (fun K hK => ?_) AllReadyH.nil; go_simp
          go_wp2_with (go_at_call 17; refine (KG.out _ [_] T5).mono ?_; rintro e w6 ⟨rfl, T6⟩); clear hH; refine hK.out _ _ (KbaseA.out _ [_] T6) (fun hH => ?_); clear hK K; refine takeT 5 hH (hy := .inl ⟨by rfl, by (intro w hSw; try obtain ⟨u0, u1, u2⟩ := hSw); (go_simp; try rfl)⟩) (h := ?_); simp only [Act.put, List.setIfInBounds_toArray, List.set_cons_zero, List.set_cons_succ]; refine takeT 6 hH (hy := .inl ⟨by rfl, by (intro w hSw; try obtain ⟨u0, u1, u2⟩ := hSw); (go_simp; try rfl)⟩) (h := ?_); simp only [Act.put, List.setIfInBounds_toArray, List.set_cons_zero, List.set_cons_succ]; refine takeT 7 hH (hy := .inl ⟨by rfl, by (intro w hSw; try obtain ⟨u0, u1, u2⟩ := hSw); (go_simp; try rfl)⟩) (h := ?_); simp only [Act.put, List.setIfInBounds_toArray, List.set_cons_zero, List.set_cons_succ]; refine readyT [9] ?_; refine consT (fun K hK => ?_) AllReadyH.nil
          have hz := T6.box 0 rfl; have z0 := cellAt hz 0 (v := .int .i64 0) rfl; have z1 := cellAt hz 1 (v := .int .i64 0) rfl; have z2 := cellAt hz 2 (v := .string ⟨#[]⟩) rfl; have z3 := frozenAt hz 0; have z4 := frozenAt hz 1; have z5 := frozenAt hz 2
          (try simp only [World.cell?_drew, World.frozen?_drew] at z0 z1 z2 z3 z4 z5); go_simp; clear hz z0 z1 z2 z3 z4 z5; clear hH
          have T7 : Sep w ([boxR _ (.cells #[.int .i64 gk, .int .i64 gn, .string gs] 31)] ++ baseA) _ := (Sep.setBox (cs := #[.int .i64 gk, .int .i64 gn, .string ⟨#[]⟩]) (t := 31) (Sep.setBox (cs := #[.int .i64 gk, .int .i64 0, .string ⟨#[]⟩]) (t := 31) (Sep.setBox (cs := #[.int .i64 0, .int .i64 0, .string ⟨#[]⟩]) (t := 31) T6 0 rfl 0 (.int .i64 gk)) 0 rfl 1 (.int .i64 gn)) 0 rfl 2 (.string gs)); (try simp only [size_drew, World.size_alloc] at T7)
          refine hK.out _ _ (KbaseA.out _ [_] T7) (fun hH => ?_); clear hK K; refine takeT 10 hH (hy := .inl ⟨by rfl, by (intro w hSw; try obtain ⟨u0, u1, u2⟩ := hSw); (go_simp; try rfl)⟩) (h := ?_); simp only [Act.put, List.setIfInBounds_toArray, List.set_cons_zero, List.set_cons_succ]
          refine wpAnyH_done (by kernel_rfl) ?_ _
          as_aux_lemma =>
            go_wp2_with fail
            go_meet
            exact ⟨_, rfl, rfl, T7⟩
      · go_simp
        have T8 : Sep w ([boxR _ (.cells #[.int .i64 0, .int .i64 0, .string ⟨#[]⟩] 31)] ++ baseA) _ := Sep.alloc T0 (.cells #[.int .i64 0, .int .i64 0, .string ⟨#[]⟩] 31); (try simp only [size_drew, World.size_alloc] at T8); clear hH; refine hK.out _ _ (KbaseA.out _ [_] T8) (fun hH => ?_); clear hK K; refine readyT [3] ?_; refine consT (fun K hK => ?_) AllReadyH.nil; go_simp
        go_wp2_with (go_at_call 38; refine (KY.out _ [_] T8).mono ?_; rintro e w9 ⟨rfl, T9⟩); clear hH; refine hK.out _ _ (KbaseA.out _ [_] T9) (fun hH => ?_); clear hK K; refine readyT [4] ?_; refine consT (fun K hK => ?_) AllReadyH.nil; go_simp
        go_wp2_with (go_at_call 17; refine (KG.out _ [_] T9).mono ?_; rintro e w10 ⟨rfl, T10⟩); clear hH; refine hK.out _ _ (KbaseA.out _ [_] T10) (fun hH => ?_); clear hK K; refine takeT 5 hH (hy := .inl ⟨by rfl, by (intro w hSw; try obtain ⟨u0, u1, u2⟩ := hSw); (go_simp; try rfl)⟩) (h := ?_); simp only [Act.put, List.setIfInBounds_toArray, List.set_cons_zero, List.set_cons_succ]; refine takeT 6 hH (hy := .inl ⟨by rfl, by (intro w hSw; try obtain ⟨u0, u1, u2⟩ := hSw); (go_simp; try rfl)⟩) (h := ?_); simp only [Act.put, List.setIfInBounds_toArray, List.set_cons_zero, List.set_cons_succ]; refine takeT 7 hH (hy := .inl ⟨by rfl, by (intro w hSw; try obtain ⟨u0, u1, u2⟩ := hSw); (go_simp; try rfl)⟩) (h := ?_); simp only [Act.put, List.setIfInBounds_toArray, List.set_cons_zero, List.set_cons_succ]; refine readyT [9] ?_; refine consT (fun K hK => ?_) AllReadyH.nil
        have hz := T10.box 0 rfl; have z0 := cellAt hz 0 (v := .int .i64 0) rfl; have z1 := cellAt hz 1 (v := .int .i64 0) rfl; have z2 := cellAt hz 2 (v := .string ⟨#[]⟩) rfl; have z3 := frozenAt hz 0; have z4 := frozenAt hz 1; have z5 := frozenAt hz 2
        (try simp only [World.cell?_drew, World.frozen?_drew] at z0 z1 z2 z3 z4 z5); go_simp; clear hz z0 z1 z2 z3 z4 z5; clear hH
        have T11 : Sep w ([boxR _ (.cells #[.int .i64 gk, .int .i64 gn, .string gs] 31)] ++ baseA) _ := (Sep.setBox (cs := #[.int .i64 gk, .int .i64 gn, .string ⟨#[]⟩]) (t := 31) (Sep.setBox (cs := #[.int .i64 gk, .int .i64 0, .string ⟨#[]⟩]) (t := 31) (Sep.setBox (cs := #[.int .i64 0, .int .i64 0, .string ⟨#[]⟩]) (t := 31) T10 0 rfl 0 (.int .i64 gk)) 0 rfl 1 (.int .i64 gn)) 0 rfl 2 (.string gs)); (try simp only [size_drew, World.size_alloc] at T11)
        refine hK.out _ _ (KbaseA.out _ [_] T11) (fun hH => ?_); clear hK K; refine takeT 10 hH (hy := .inl ⟨by rfl, by (intro w hSw; try obtain ⟨u0, u1, u2⟩ := hSw); (go_simp; try rfl)⟩) (h := ?_); simp only [Act.put, List.setIfInBounds_toArray, List.set_cons_zero, List.set_cons_succ]
        refine wpAnyH_done (by kernel_rfl) ?_ _
        as_aux_lemma =>
          go_wp2_with fail
          go_meet
          exact ⟨_, rfl, rfl, T11⟩
  case rest =>
    obtain ⟨x8, rfl, rfl, S⟩ := hcut
    rw [HbaseA.out] at S
    clear KY KG KbaseA HbaseA
    replace S := S.swap
    replace S : Sep w (boxR (b + 1) (.cells #[.int .i64 0, .int .i64 0, .string ⟨#[]⟩] 31) :: boxR x8 (.cells #[.int .i64 gk, .int .i64 gn, .string gs] 31) :: boxR b (.cells #[.int .i64 v.kind, .int .i64 v.n, .string v.s] 31) :: Rs) _ := S
    cases g with
    | none =>
      simp only [Option.isSome_none]
      obtain rfl : cf = false := HCF.out
      obtain ⟨baseA, hbaseA⟩ : ∃ base, base = boxR x8 (.cells #[.int .i64 gk, .int .i64 gn, .string gs] 31) :: boxR b (.cells #[.int .i64 v.kind, .int .i64 v.n, .string v.s] 31) :: Rs := ⟨_, rfl⟩
      have HbaseA := Lib.hid hbaseA
      have KbaseA : Hid (∀ W (Q : List Res), Sep w (Q ++ baseA) W → W.cell? ⟨x8, 0, none⟩ = some (.int .i64 gk) ∧ W.cell? ⟨x8, 1, none⟩ = some (.int .i64 gn) ∧ W.cell? ⟨x8, 2, none⟩ = some (.string gs)) := Lib.hid fun W Q T => by
        rw [hbaseA] at T
        have i0 := T.box (b := x8) (o := .cells #[.int .i64 gk, .int .i64 gn, .string gs] 31) (Q.length + 0) (by rw [List.getElem?_append_right (by omega), Nat.add_sub_cancel_left]; rfl)
        exact ⟨cellAt i0 0 rfl, cellAt i0 1 rfl, cellAt i0 2 rfl⟩
      have FR : Hid (∀ W (A B : Res), Sep w (A :: baseA) W → Sep w Rs W) := Lib.hid fun W A B T => by rw [HbaseA.out] at T; exact T.tail.tail.tail
      replace S : Sep w (boxR (b + 1) (.cells #[.int .i64 0, .int .i64 0, .string ⟨#[]⟩] 31) :: baseA) wc := by rw [hbaseA]; exact S
      replace S := Lib.hid S; clear hbaseA
      go_upto_region 2 with fail
      go_cut [7] (fun s7 wx => s7 = .bool false ∧ Sep w (boxR (b + 1) (.cells #[.int .i64 gk, .int .i64 gn, .string gs] 31) :: baseA) wx)
      case first =>
        have T0 : Sep w ([boxR (b + 1) (.cells #[.int .i64 0, .int .i64 0, .string ⟨#[]⟩] 31)] ++ baseA) _ := S.out.drew; clear S
        as_aux_lemma =>
          refine wp_region_held_drew (S := fun W => W.cell? ⟨x8, 0, none⟩ = some (.int .i64 gk) ∧ W.cell? ⟨x8, 1, none⟩ = some (.int .i64 gn) ∧ W.cell? ⟨x8, 2, none⟩ = some (.string gs)) (by kernel_rfl) (KbaseA.out _ [_] T0) (fun hH => ?_); refine takeT 0 hH (hy := .inl ⟨by rfl, by (intro w hSw; try obtain ⟨u0, u1, u2⟩ := hSw); (go_simp; try rfl)⟩) (h := ?_); simp only [Act.put, List.setIfInBounds_toArray, List.set_cons_zero, List.set_cons_succ]; refine takeT 1 hH (hy := .inl ⟨by rfl, by (intro w hSw; try obtain ⟨u0, u1, u2⟩ := hSw); (go_simp; try rfl)⟩) (h := ?_); simp only [Act.put, List.setIfInBounds_toArray, List.set_cons_zero, List.set_cons_succ]; refine takeT 2 hH (hy := .inl ⟨by rfl, by (intro w hSw; try obtain ⟨u0, u1, u2⟩ := hSw); (go_simp; try rfl)⟩) (h := ?_); simp only [Act.put, List.setIfInBounds_toArray, List.set_cons_zero, List.set_cons_succ]; refine skipT 3 hH (h := ?_); simp only [Act.put, List.setIfInBounds_toArray, List.set_cons_zero, List.set_cons_succ]; refine skipT 4 hH (h := ?_); simp only [Act.put, List.setIfInBounds_toArray, List.set_cons_zero, List.set_cons_succ]; refine skipT 5 hH (h := ?_); simp only [Act.put, List.setIfInBounds_toArray, List.set_cons_zero, List.set_cons_succ]; refine skipT 6 hH (h := ?_); simp only [Act.put, List.setIfInBounds_toArray, List.set_cons_zero, List.set_cons_succ]; refine takeT 7 hH (hy := .inl ⟨by rfl, by (intro w hSw; try obtain ⟨u0, u1, u2⟩ := hSw); (go_simp; try rfl)⟩) (h := ?_); simp only [Act.put, List.setIfInBounds_toArray, List.set_cons_zero, List.set_cons_succ]; refine readyT [8] ?_; refine consT (fun K hK => ?_) AllReadyH.nil
          have hz := T0.box 0 rfl; have z0 := cellAt hz 0 (v := .int .i64 0) rfl; have z1 := cellAt hz 1 (v := .int .i64 0) rfl; have z2 := cellAt hz 2 (v := .string ⟨#[]⟩) rfl; have z3 := frozenAt hz 0; have z4 := frozenAt hz 1; have z5 := frozenAt hz 2
          (try simp only [World.cell?_drew, World.frozen?_drew] at z0 z1 z2 z3 z4 z5); go_simp; clear hz z0 z1 z2 z3 z4 z5; clear hH
          have T1 : Sep w ([boxR _ (.cells #[.int .i64 gk, .int .i64 gn, .string gs] 31)] ++ baseA) _ := (Sep.setBox (cs := #[.int .i64 gk, .int .i64 gn, .string ⟨#[]⟩]) (t := 31) (Sep.setBox (cs := #[.int .i64 gk, .int .i64 0, .string ⟨#[]⟩]) (t := 31) (Sep.setBox (cs := #[.int .i64 0, .int .i64 0, .string ⟨#[]⟩]) (t := 31) T0 0 rfl 0 (.int .i64 gk)) 0 rfl 1 (.int .i64 gn)) 0 rfl 2 (.string gs)); (try simp only [size_drew, World.size_alloc] at T1)
          refine hK.out _ _ (KbaseA.out _ [_] T1) (fun hH => ?_); clear hK K; refine takeT 9 hH (hy := .inl ⟨by rfl, by (intro w hSw; try obtain ⟨u0, u1, u2⟩ := hSw); (go_simp; try rfl)⟩) (h := ?_); simp only [Act.put, List.setIfInBounds_toArray, List.set_cons_zero, List.set_cons_succ]
          refine wpAnyH_done (by kernel_rfl) ?_ _
          as_aux_lemma =>
            go_wp2_with fail
            go_meet
            exact ⟨rfl, T1⟩
      case rest =>
        obtain ⟨rfl, S⟩ := hcut
        have r0 := cellAt (S.box (b := b + 1) 0 rfl) 0 (v := .int .i64 gk) rfl
        have r1 := cellAt (S.box (b := b + 1) 0 rfl) 1 (v := .int .i64 gn) rfl
        have r2 := cellAt (S.box (b := b + 1) 0 rfl) 2 (v := .string gs) rfl
        have S9 := Lib.hid (FR.out _ _ (boxR 0 (.cells #[] 0)) S); clear KbaseA S
        go_wp2
        exact bodyPost_ret (v := .tuple #[.agg #[.int .i64 gk, .int .i64 gn, .string gs], .bool false]) (by simp [results, Tryd.results40, go_sem, r0, r1, r2]) rfl ⟨rfl, S9.out⟩
    | some c =>
      simp only [Option.isSome_some]
      have hkd : H.kind c = H.kind c := rfl
      obtain ⟨kd, hkd⟩ : ∃ kd, H.kind c = kd := ⟨_, rfl⟩
      have hcc : cf = (kd == 5) := by have := HCF.out; simp only [hkd] at this; rw [this, Bool.eq_iff_iff]; simp
      have HKD := Lib.hid hkd; clear hkd
      subst hcc
      obtain ⟨baseA, hbaseA⟩ : ∃ base, base = boxR x8 (.cells #[.int .i64 gk, .int .i64 gn, .string gs] 31) :: boxR b (.cells #[.int .i64 v.kind, .int .i64 v.n, .string v.s] 31) :: Rs := ⟨_, rfl⟩
      have HbaseA := Lib.hid hbaseA
      have KbaseA : Hid (∀ W (Q : List Res), Sep w (Q ++ baseA) W → W.cell? ⟨x8, 0, none⟩ = some (.int .i64 gk) ∧ W.cell? ⟨x8, 1, none⟩ = some (.int .i64 gn) ∧ W.cell? ⟨x8, 2, none⟩ = some (.string gs)) := Lib.hid fun W Q T => by
        rw [hbaseA] at T
        have i0 := T.box (b := x8) (o := .cells #[.int .i64 gk, .int .i64 gn, .string gs] 31) (Q.length + 0) (by rw [List.getElem?_append_right (by omega), Nat.add_sub_cancel_left]; rfl)
        exact ⟨cellAt i0 0 rfl, cellAt i0 1 rfl, cellAt i0 2 rfl⟩
      have KK : Hid (∀ W (Q : List Res), Sep w (Q ++ baseA) W → Calls Tryd.prog 26 #[.pointer (some ⟨h, 0, none⟩), .agg #[.int .i64 gk, .int .i64 gn, .string gs]] W fun e W' => e = .returned (.int .i64 kd) ∧ Sep w (Q ++ baseA) W') := Lib.hid fun W Q T => by
        have hi := HII.out
        rw [HbaseA.out] at T ⊢
        have hh := T.kind (Q.length + (i + 2)) (by rw [List.getElem?_append_right (by omega), Nat.add_sub_cancel_left]; simpa using hi) c
        rw [HKD.out] at hh
        have e0 : gk = c.kind := HG3.out.1
        have e1 : gn = c.n := HG3.out.2.1
        have e2 : gs = c.s := HG3.out.2.2
        simp only [V.val] at hh
        rw [← e0, ← e1, ← e2] at hh
        exact hh.mono fun e W' ⟨e1, e2, _⟩ => ⟨e1, e2⟩
      have FR : Hid (∀ W (A B : Res), Sep w (A :: baseA) W → Sep w Rs W) := Lib.hid fun W A B T => by rw [HbaseA.out] at T; exact T.tail.tail.tail
      replace S : Sep w (boxR (b + 1) (.cells #[.int .i64 0, .int .i64 0, .string ⟨#[]⟩] 31) :: baseA) wc := by rw [hbaseA]; exact S
      replace S := Lib.hid S; clear hbaseA
      go_upto_region 2 with fail
      go_cut [7] (fun s7 wx => s7 = .bool (kd == 5) ∧ Sep w (boxR (b + 1) (.cells #[.int .i64 gk, .int .i64 gn, .string gs] 31) :: baseA) wx)
      case first =>
        have T0 : Sep w ([boxR (b + 1) (.cells #[.int .i64 0, .int .i64 0, .string ⟨#[]⟩] 31)] ++ baseA) _ := S.out.drew; clear S
        as_aux_lemma =>
          refine wp_region_held_drew (S := fun W => W.cell? ⟨x8, 0, none⟩ = some (.int .i64 gk) ∧ W.cell? ⟨x8, 1, none⟩ = some (.int .i64 gn) ∧ W.cell? ⟨x8, 2, none⟩ = some (.string gs)) (by kernel_rfl) (KbaseA.out _ [_] T0) (fun hH => ?_); refine takeT 0 hH (hy := .inl ⟨by rfl, by (intro w hSw; try obtain ⟨u0, u1, u2⟩ := hSw); (go_simp; try rfl)⟩) (h := ?_); simp only [Act.put, List.setIfInBounds_toArray, List.set_cons_zero, List.set_cons_succ]; refine takeT 1 hH (hy := .inl ⟨by rfl, by (intro w hSw; try obtain ⟨u0, u1, u2⟩ := hSw); (go_simp; try rfl)⟩) (h := ?_); simp only [Act.put, List.setIfInBounds_toArray, List.set_cons_zero, List.set_cons_succ]; refine takeT 2 hH (hy := .inl ⟨by rfl, by (intro w hSw; try obtain ⟨u0, u1, u2⟩ := hSw); (go_simp; try rfl)⟩) (h := ?_); simp only [Act.put, List.setIfInBounds_toArray, List.set_cons_zero, List.set_cons_succ]; refine takeT 3 hH (hy := .inl ⟨by rfl, by (intro w hSw; try obtain ⟨u0, u1, u2⟩ := hSw); (go_simp; try rfl)⟩) (h := ?_); simp only [Act.put, List.setIfInBounds_toArray, List.set_cons_zero, List.set_cons_succ]; refine takeT 4 hH (hy := .inl ⟨by rfl, by (intro w hSw; try obtain ⟨u0, u1, u2⟩ := hSw); (go_simp; try rfl)⟩) (h := ?_); simp only [Act.put, List.setIfInBounds_toArray, List.set_cons_zero, List.set_cons_succ]; refine readyT [5] ?_; refine consT (fun K hK => ?_) AllReadyH.nil; go_simp
          go_wp2_with (go_at_call 26; refine (KK.out _ [_] T0).mono ?_; rintro e w1 ⟨rfl, T1⟩); clear hH; refine hK.out _ _ (KbaseA.out _ [_] T1) (fun hH => ?_); clear hK K; refine takeT 6 hH (hy := .inl ⟨by rfl, by (intro w hSw; try obtain ⟨u0, u1, u2⟩ := hSw); (go_simp; try rfl)⟩) (h := ?_); simp only [Act.put, List.setIfInBounds_toArray, List.set_cons_zero, List.set_cons_succ]; refine takeT 7 hH (hy := .inl ⟨by rfl, by (intro w hSw; try obtain ⟨u0, u1, u2⟩ := hSw); (go_simp; try rfl)⟩) (h := ?_); simp only [Act.put, List.setIfInBounds_toArray, List.set_cons_zero, List.set_cons_succ]; refine readyT [8] ?_; refine consT (fun K hK => ?_) AllReadyH.nil
          have hz := T1.box 0 rfl; have z0 := cellAt hz 0 (v := .int .i64 0) rfl; have z1 := cellAt hz 1 (v := .int .i64 0) rfl; have z2 := cellAt hz 2 (v := .string ⟨#[]⟩) rfl; have z3 := frozenAt hz 0; have z4 := frozenAt hz 1; have z5 := frozenAt hz 2
          (try simp only [World.cell?_drew, World.frozen?_drew] at z0 z1 z2 z3 z4 z5); go_simp; clear hz z0 z1 z2 z3 z4 z5; clear hH
          have T2 : Sep w ([boxR _ (.cells #[.int .i64 gk, .int .i64 gn, .string gs] 31)] ++ baseA) _ := (Sep.setBox (cs := #[.int .i64 gk, .int .i64 gn, .string ⟨#[]⟩]) (t := 31) (Sep.setBox (cs := #[.int .i64 gk, .int .i64 0, .string ⟨#[]⟩]) (t := 31) (Sep.setBox (cs := #[.int .i64 0, .int .i64 0, .string ⟨#[]⟩]) (t := 31) T1 0 rfl 0 (.int .i64 gk)) 0 rfl 1 (.int .i64 gn)) 0 rfl 2 (.string gs)); (try simp only [size_drew, World.size_alloc] at T2)
          refine hK.out _ _ (KbaseA.out _ [_] T2) (fun hH => ?_); clear hK K; refine takeT 9 hH (hy := .inl ⟨by rfl, by (intro w hSw; try obtain ⟨u0, u1, u2⟩ := hSw); (go_simp; try rfl)⟩) (h := ?_); simp only [Act.put, List.setIfInBounds_toArray, List.set_cons_zero, List.set_cons_succ]
          refine wpAnyH_done (by kernel_rfl) ?_ _
          as_aux_lemma =>
            go_wp2_with fail
            go_meet
            exact ⟨rfl, T2⟩
      case rest =>
        obtain ⟨rfl, S⟩ := hcut
        have r0 := cellAt (S.box (b := b + 1) 0 rfl) 0 (v := .int .i64 gk) rfl
        have r1 := cellAt (S.box (b := b + 1) 0 rfl) 1 (v := .int .i64 gn) rfl
        have r2 := cellAt (S.box (b := b + 1) 0 rfl) 2 (v := .string gs) rfl
        have S9 := Lib.hid (FR.out _ _ (boxR 0 (.cells #[] 0)) S); clear KK KbaseA S
        go_wp2
        exact bodyPost_ret (v := .tuple #[.agg #[.int .i64 gk, .int .i64 gn, .string gs], .bool (kd == 5)]) (by simp [results, Tryd.results40, go_sem, r0, r1, r2]) rfl ⟨rfl, S9.out⟩
theorem classF_some {H : HeapM} {boot c : V} {s : ByteArray} {hs : s.size ≤ maxLen} (h : H.classF boot s hs = some c) : H.get boot (keyS s hs) = some c ∧ H.kind c = 5 := by
  unfold HeapM.classF at h
  cases g : H.get boot (keyS s hs) with
  | none => rw [g] at h; simp at h
  | some x =>
    rw [g] at h
    by_cases e : H.kind x = 5
    · simp [Option.filter, e] at h
      subst h; exact ⟨rfl, e⟩
    · simp [Option.filter, e] at h
set_option maxRecDepth 100000 in
set_option maxHeartbeats 3200000 in
theorem fiscls_ok (S : Sep w Rs W) (i : Nat) (hi : Rs[i]? = some (heapR h H)) {N : Nat} (G : H.Good N) (hN : N ≤ 4000000) (boot v : V) :
    Calls Tryd.prog 28 #[.pointer (some ⟨h, 0, none⟩), boot.val, v.val] W fun e W' => e = .returned (.bool (H.isClsF boot v)) ∧ Sep w Rs W' := by
  obtain ⟨b, hb⟩ : ∃ gx_, (W.heap.size) = gx_ := ⟨_, rfl⟩
  have S1 := (S.alloc (.cells #[.int .i64 boot.kind, .int .i64 boot.n, .string boot.s] 31)).alloc (.cells #[.int .i64 v.kind, .int .i64 v.n, .string v.s] 31)
  simp only [World.size_alloc, hb] at S1
  have C1 := fclass_ok S1 (i + 2) (by simpa using hi) boot (nameF 0) (nameF_le 0)
  have hv : H.isClsF boot v = (match H.classF boot (nameF 0) (nameF_le 0) with | some c => H.subM v c | none => false) := rfl
  rw [hv]
  have d0 := cellAt (S1.box (b := b) 1 rfl) 0 (v := .int .i64 boot.kind) rfl
  have d1 := cellAt (S1.box (b := b) 1 rfl) 1 (v := .int .i64 boot.n) rfl
  have d2 := cellAt (S1.box (b := b) 1 rfl) 2 (v := .string boot.s) rfl
  have HI := Lib.hid hi
  have HG := Lib.hid (And.intro G hN)
  simp only [V.val] at *
  clear S S1 hi hv G hN
  cases hr : H.classF boot (nameF 0) (nameF_le 0) with
  | none =>
    rw [hr] at C1
    replace C1 := Lib.hid C1
    clear hr
    go_enter Tryd.func28, Tryd.ntmps28
    go_wp2_with fail
    try simp only [hb]
    refine C1.out.mono ?_
    rintro e w1 ⟨rfl, S2⟩
    have S3 := Lib.hid (S2.alloc (.cells #[.int .i64 ((H.get boot (keyS (nameF 0) (nameF_le 0))).getD V.zero).kind, .int .i64 ((H.get boot (keyS (nameF 0) (nameF_le 0))).getD V.zero).n, .string ((H.get boot (keyS (nameF 0) (nameF_le 0))).getD V.zero).s] 31)).tail.tail.tail
    clear C1 d0 d1 d2 hb S2
    obtain ⟨g, hg⟩ : ∃ gx_, ((H.get boot (keyS (nameF 0) (nameF_le 0))).getD V.zero) = gx_ := ⟨_, rfl⟩
    rw [hg] at S3
    rw [hg]
    clear hg
    simp only [Option.isSome_none]
    go_wp2
    go_ret
    exact ⟨rfl, S3.out⟩
  | some c =>
    have hc := classF_some hr
    rw [hr, hc.1] at C1
    simp only [Option.getD_some, Option.isSome_some] at C1
    replace C1 := Lib.hid C1
    clear hr hc
    go_enter Tryd.func28, Tryd.ntmps28
    go_wp2_with fail
    try simp only [hb]
    refine C1.out.mono ?_
    rintro e w1 ⟨rfl, S2⟩
    obtain ⟨x, hx⟩ : ∃ gx_, (w1.heap.size) = gx_ := ⟨_, rfl⟩
    have S3 := S2.alloc (.cells #[.int .i64 c.kind, .int .i64 c.n, .string c.s] 31)
    rw [hx] at S3
    clear C1 d0 d1 d2 hb S2
    have e0 := cellAt (S3.box (b := b + 1) 1 rfl) 0 (v := .int .i64 v.kind) rfl
    have e1 := cellAt (S3.box (b := b + 1) 1 rfl) 1 (v := .int .i64 v.n) rfl
    have e2 := cellAt (S3.box (b := b + 1) 1 rfl) 2 (v := .string v.s) rfl
    have e3 := cellAt (S3.box (b := x) 0 rfl) 0 (v := .int .i64 c.kind) rfl
    have e4 := cellAt (S3.box (b := x) 0 rfl) 1 (v := .int .i64 c.n) rfl
    have e5 := cellAt (S3.box (b := x) 0 rfl) 2 (v := .string c.s) rfl
    have C2 := sub_ok S3 (i + 3) (by simpa using HI.out) HG.out.1 HG.out.2 v c
    simp only [V.val] at C2
    replace C2 := Lib.hid C2
    clear S3
    go_wp2_with fail
    try simp only [hx]
    refine C2.out.mono ?_
    rintro e w2 ⟨rfl, S4⟩
    have S5 := Lib.hid S4.tail.tail.tail
    clear C2 e0 e1 e2 e3 e4 e5 hx S4
    go_wp2
    go_ret
    exact ⟨rfl, S5.out⟩
set_option maxRecDepth 100000 in
set_option maxHeartbeats 3200000 in
theorem fis_ok (S : Sep w Rs W) (i : Nat) (hi : Rs[i]? = some (heapR h H)) {N : Nat} (G : H.Good N) (hN : N ≤ 4000000) (boot v : V) :
    Calls Tryd.prog 29 #[.pointer (some ⟨h, 0, none⟩), boot.val, v.val] W fun e W' => e = .returned (.bool (H.isF boot v)) ∧ Sep w Rs W' := by
  obtain ⟨b, hb⟩ : ∃ gx_, (W.heap.size) = gx_ := ⟨_, rfl⟩
  have S1 := (S.alloc (.cells #[.int .i64 boot.kind, .int .i64 boot.n, .string boot.s] 31)).alloc (.cells #[.int .i64 v.kind, .int .i64 v.n, .string v.s] 31)
  simp only [World.size_alloc, hb] at S1
  have C1 := of_ok S1 (i + 2) (by simpa using hi) v
  have hv : H.isF boot v = (match H.ofM v with | some c => H.isClsF boot c | none => false) := rfl
  rw [hv]
  have d0 := cellAt (S1.box (b := b + 1) 0 rfl) 0 (v := .int .i64 v.kind) rfl
  have d1 := cellAt (S1.box (b := b + 1) 0 rfl) 1 (v := .int .i64 v.n) rfl
  have d2 := cellAt (S1.box (b := b + 1) 0 rfl) 2 (v := .string v.s) rfl
  have HI := Lib.hid hi
  have HG := Lib.hid (And.intro G hN)
  simp only [V.val] at *
  clear S S1 hi hv G hN
  cases hr : H.ofM v with
  | none =>
    rw [hr] at C1
    simp only [Option.getD_none, Option.isSome_none, V.zero] at C1
    replace C1 := Lib.hid C1
    clear hr
    go_enter Tryd.func29, Tryd.ntmps29
    go_wp2_with fail
    try simp only [hb]
    refine C1.out.mono ?_
    rintro e w1 ⟨rfl, S2⟩
    have S3 := Lib.hid (S2.alloc (.cells #[.int .i64 0, .int .i64 0, .string ⟨#[]⟩] 31)).tail.tail.tail
    clear C1 d0 d1 d2 hb S2
    go_wp2
    go_ret
    exact ⟨rfl, S3.out⟩
  | some c =>
    rw [hr] at C1
    simp only [Option.getD_some, Option.isSome_some] at C1
    replace C1 := Lib.hid C1
    clear hr
    go_enter Tryd.func29, Tryd.ntmps29
    go_wp2_with fail
    try simp only [hb]
    refine C1.out.mono ?_
    rintro e w1 ⟨rfl, S2⟩
    obtain ⟨x, hx⟩ : ∃ gx_, (w1.heap.size) = gx_ := ⟨_, rfl⟩
    have S3 := S2.alloc (.cells #[.int .i64 c.kind, .int .i64 c.n, .string c.s] 31)
    rw [hx] at S3
    clear C1 d0 d1 d2 hb S2
    have e0 := cellAt (S3.box (b := b) 2 rfl) 0 (v := .int .i64 boot.kind) rfl
    have e1 := cellAt (S3.box (b := b) 2 rfl) 1 (v := .int .i64 boot.n) rfl
    have e2 := cellAt (S3.box (b := b) 2 rfl) 2 (v := .string boot.s) rfl
    have e3 := cellAt (S3.box (b := x) 0 rfl) 0 (v := .int .i64 c.kind) rfl
    have e4 := cellAt (S3.box (b := x) 0 rfl) 1 (v := .int .i64 c.n) rfl
    have e5 := cellAt (S3.box (b := x) 0 rfl) 2 (v := .string c.s) rfl
    have C2 := fiscls_ok S3 (i + 3) (by simpa using HI.out) HG.out.1 HG.out.2 boot c
    simp only [V.val] at C2
    replace C2 := Lib.hid C2
    clear S3
    go_wp2_with fail
    try simp only [hx]
    refine C2.out.mono ?_
    rintro e w2 ⟨rfl, S4⟩
    have S5 := Lib.hid S4.tail.tail.tail
    clear C2 e0 e1 e2 e3 e4 e5 hx S4
    go_wp2
    go_ret
    exact ⟨rfl, S5.out⟩
end
end Go.Proofs.YtobcnffjfclolaaDoor
/- fault: Make. -/
namespace Go.Proofs.YtobcnffjfclolaaDoor
set_option linter.unusedSimpArgs false
open Go.RowKit
set_option linter.unusedVariables false
section
variable {w W : World} {Rs : List Res} {h : Nat} {H : HeapM}
theorem seesV_oneF {W : World} {bk : Nat} {T : TypeId} (v : V) (h : W.heap[bk]? = some (.cells #[.int .i64 v.kind, .int .i64 v.n, .string v.s] T)) : SeesV W (.slice (some ⟨bk, 0, none⟩) 1 1) [v] := by
  refine ⟨_, 1, rfl, by simp, by simp [maxLen], .inr ⟨bk, 0, rfl, fun i x hx => ?_⟩⟩
  match i, hx with
  | 0, hx =>
    simp at hx; subst hx
    exact ⟨cellAt h 0 rfl, cellAt h 1 rfl, cellAt h 2 rfl⟩
  | i + 1, hx => simp at hx
theorem set_at {Rs : List Res} {i : Nat} {R R' : Res} (hi : Rs[i]? = some R) : (Rs.set i R')[i]? = some R' := by
  rw [List.getElem?_set_self (List.getElem?_eq_some_iff.1 hi).1]
set_option maxRecDepth 100000 in
set_option maxHeartbeats 3200000 in
theorem fmake_no (S : Sep w Rs W) (i : Nat) (hi : Rs[i]? = some (heapR h H)) {N : Nat} (F : H.Fit N) (hN : N + 10 ≤ 4000000) (boot : V) (s : ByteArray) (hs : s.size ≤ maxLen) (a : V) (has : Bool) (hr : H.classF boot s hs = none) :
    Calls Tryd.prog 16 #[.pointer (some ⟨h, 0, none⟩), boot.val, .agg #[.string s, .int .i64 a.kind, .int .i64 a.n, .string a.s, .bool has]] W fun e W' => e = .returned (.agg #[.int .i64 0, .int .i64 0, .string ⟨#[]⟩]) ∧ Sep w Rs W' := by
  obtain ⟨b, hb⟩ : ∃ gx_, (W.heap.size) = gx_ := ⟨_, rfl⟩
  have S2 := ((S.alloc (.cells #[.int .i64 boot.kind, .int .i64 boot.n, .string boot.s] 31)).alloc (.cells #[.string s, .int .i64 a.kind, .int .i64 a.n, .string a.s, .bool has] 35)).alloc (.cells #[.int .i64 0, .int .i64 0, .string ⟨#[]⟩] 31)
  simp only [World.size_alloc, hb] at S2
  replace S : Sep w (boxR (b + 1 + 1) (.cells #[.int .i64 0, .int .i64 0, .string ⟨#[]⟩] 31) :: boxR (b + 1) (.cells #[.string s, .int .i64 a.kind, .int .i64 a.n, .string a.s, .bool has] 35) :: boxR b (.cells #[.int .i64 boot.kind, .int .i64 boot.n, .string boot.s] 31) :: Rs) _ := S2
  clear S2
  have C1 := fclass_ok S (i + 3) (by simpa using hi) boot s hs
  rw [hr] at C1
  simp only [Option.isSome_none, V.val] at C1
  obtain ⟨g, hg⟩ : ∃ g, (H.get boot (keyS s hs)).getD V.zero = g := ⟨_, rfl⟩
  rw [hg] at C1
  clear hr hi F hN hg
  have d0 := cellAt (S.box (b := b) 2 rfl) 0 (v := .int .i64 boot.kind) rfl
  have d1 := cellAt (S.box (b := b) 2 rfl) 1 (v := .int .i64 boot.n) rfl
  have d2 := cellAt (S.box (b := b) 2 rfl) 2 (v := .string boot.s) rfl
  have d3 := cellAt (S.box (b := b + 1) 1 rfl) 0 (v := .string s) rfl
  have d4 := cellAt (S.box (b := b + 1) 1 rfl) 1 (v := .int .i64 a.kind) rfl
  have d5 := cellAt (S.box (b := b + 1) 1 rfl) 2 (v := .int .i64 a.n) rfl
  have d6 := cellAt (S.box (b := b + 1) 1 rfl) 3 (v := .string a.s) rfl
  have d7 := cellAt (S.box (b := b + 1) 1 rfl) 4 (v := .bool has) rfl
  replace C1 := Lib.hid C1
  simp only [V.val]
  clear S
  go_enter Tryd.func16, Tryd.ntmps16
  go_wp2_with fail
  try simp only [hb]
  refine C1.out.mono ?_
  rintro e w1 ⟨rfl, S⟩
  clear C1 hb d0 d1 d2 d3 d4 d5 d6 d7
  replace S : Sep w (boxR (b + 1 + 1) (.cells #[.int .i64 0, .int .i64 0, .string ⟨#[]⟩] 31) :: boxR (b + 1) (.cells #[.string s, .int .i64 a.kind, .int .i64 a.n, .string a.s, .bool has] 35) :: boxR b (.cells #[.int .i64 boot.kind, .int .i64 boot.n, .string boot.s] 31) :: Rs) _ := S
  obtain ⟨x7, hx7⟩ : ∃ gx_, (w1.heap.size) = gx_ := ⟨_, rfl⟩
  replace S := (S.alloc (.cells #[.int .i64 g.kind, .int .i64 g.n, .string g.s] 31))
  simp only [World.size_alloc, hx7] at S
  replace S : Sep w (boxR x7 (.cells #[.int .i64 g.kind, .int .i64 g.n, .string g.s] 31) :: boxR (b + 1 + 1) (.cells #[.int .i64 0, .int .i64 0, .string ⟨#[]⟩] 31) :: boxR (b + 1) (.cells #[.string s, .int .i64 a.kind, .int .i64 a.n, .string a.s, .bool has] 35) :: boxR b (.cells #[.int .i64 boot.kind, .int .i64 boot.n, .string boot.s] 31) :: Rs) _ := S
  have S2 := Lib.hid S
  have r0 := cellAt (S.box (b := b + 1 + 1) 1 rfl) 0 (v := .int .i64 0) rfl
  have r1 := cellAt (S.box (b := b + 1 + 1) 1 rfl) 1 (v := .int .i64 0) rfl
  have r2 := cellAt (S.box (b := b + 1 + 1) 1 rfl) 2 (v := .string ⟨#[]⟩) rfl
  have r3 := frozenAt (S.box (b := b + 1 + 1) 1 rfl) 0
  have r4 := frozenAt (S.box (b := b + 1 + 1) 1 rfl) 1
  have r5 := frozenAt (S.box (b := b + 1 + 1) 1 rfl) 2
  have S3 := Lib.hid (Sep.setBox (cs := #[.int .i64 0, .int .i64 0, .string ⟨#[]⟩]) (t := 31) (Sep.setBox (cs := #[.int .i64 0, .int .i64 0, .string ⟨#[]⟩]) (t := 31) (Sep.setBox (cs := #[.int .i64 0, .int .i64 0, .string ⟨#[]⟩]) (t := 31) S 1 rfl 0 (.int .i64 0)) 1 rfl 1 (.int .i64 0)) 1 rfl 2 (.string ⟨#[]⟩))
  have S4 : Hid (Sep w Rs _) := Lib.hid S3.out.tail.tail.tail.tail
  clear S S2
  go_wp2
  exact bodyPost_ret (v := .agg #[.int .i64 0, .int .i64 0, .string ⟨#[]⟩]) (by simp [results, Tryd.results16, go_sem, r0, r1, r2]) rfl ⟨rfl, S4.out⟩
set_option maxRecDepth 100000 in
set_option maxHeartbeats 3200000 in
theorem fmake_true (S : Sep w Rs W) (i : Nat) (hi : Rs[i]? = some (heapR h H)) {N : Nat} (F : H.Fit N) (hN : N + 10 ≤ 4000000) (boot : V) (s : ByteArray) (hs : s.size ≤ maxLen) (a : V) (c : V) (hr : H.classF boot s hs = some c) :
    Calls Tryd.prog 16 #[.pointer (some ⟨h, 0, none⟩), boot.val, .agg #[.string s, .int .i64 a.kind, .int .i64 a.n, .string a.s, .bool true]] W fun e W' => e = .returned (.agg #[.int .i64 4, .int .i64 (H.last + 2), .string ⟨#[]⟩]) ∧ Sep w (Rs.set i (heapR h (H.madeF c [a]))) W' := by
  obtain ⟨b, hb⟩ : ∃ gx_, (W.heap.size) = gx_ := ⟨_, rfl⟩
  have S2 := ((S.alloc (.cells #[.int .i64 boot.kind, .int .i64 boot.n, .string boot.s] 31)).alloc (.cells #[.string s, .int .i64 a.kind, .int .i64 a.n, .string a.s, .bool true] 35)).alloc (.cells #[.int .i64 0, .int .i64 0, .string ⟨#[]⟩] 31)
  simp only [World.size_alloc, hb] at S2
  replace S : Sep w (boxR (b + 1 + 1) (.cells #[.int .i64 0, .int .i64 0, .string ⟨#[]⟩] 31) :: boxR (b + 1) (.cells #[.string s, .int .i64 a.kind, .int .i64 a.n, .string a.s, .bool true] 35) :: boxR b (.cells #[.int .i64 boot.kind, .int .i64 boot.n, .string boot.s] 31) :: Rs) _ := S2
  clear S2
  have C1 := fclass_ok S (i + 3) (by simpa using hi) boot s hs
  rw [hr] at C1
  have hc := classF_some hr
  rw [hc.1] at C1
  simp only [Option.getD_some, Option.isSome_some, V.val] at C1
  have HI := Lib.hid hi
  have HF := Lib.hid (And.intro F (And.intro hN (show H.isClass c = true by unfold HeapM.isClass; simp [hc.2])))
  clear hc hi F hN hr
  have d0 := cellAt (S.box (b := b) 2 rfl) 0 (v := .int .i64 boot.kind) rfl
  have d1 := cellAt (S.box (b := b) 2 rfl) 1 (v := .int .i64 boot.n) rfl
  have d2 := cellAt (S.box (b := b) 2 rfl) 2 (v := .string boot.s) rfl
  have d3 := cellAt (S.box (b := b + 1) 1 rfl) 0 (v := .string s) rfl
  have d4 := cellAt (S.box (b := b + 1) 1 rfl) 1 (v := .int .i64 a.kind) rfl
  have d5 := cellAt (S.box (b := b + 1) 1 rfl) 2 (v := .int .i64 a.n) rfl
  have d6 := cellAt (S.box (b := b + 1) 1 rfl) 3 (v := .string a.s) rfl
  have d7 := cellAt (S.box (b := b + 1) 1 rfl) 4 (v := .bool true) rfl
  replace C1 := Lib.hid C1
  simp only [V.val]
  clear S
  go_enter Tryd.func16, Tryd.ntmps16
  go_wp2_with fail
  try simp only [hb]
  refine C1.out.mono ?_
  rintro e w1 ⟨rfl, S⟩
  clear C1 hb d0 d1 d2 d3 d4 d5 d6 d7
  replace S : Sep w (boxR (b + 1 + 1) (.cells #[.int .i64 0, .int .i64 0, .string ⟨#[]⟩] 31) :: boxR (b + 1) (.cells #[.string s, .int .i64 a.kind, .int .i64 a.n, .string a.s, .bool true] 35) :: boxR b (.cells #[.int .i64 boot.kind, .int .i64 boot.n, .string boot.s] 31) :: Rs) _ := S
  obtain ⟨x7, hx7⟩ : ∃ gx_, (w1.heap.size) = gx_ := ⟨_, rfl⟩
  replace S := (S.alloc (.cells #[.int .i64 c.kind, .int .i64 c.n, .string c.s] 31))
  simp only [World.size_alloc, hx7] at S
  replace S : Sep w (boxR x7 (.cells #[.int .i64 c.kind, .int .i64 c.n, .string c.s] 31) :: boxR (b + 1 + 1) (.cells #[.int .i64 0, .int .i64 0, .string ⟨#[]⟩] 31) :: boxR (b + 1) (.cells #[.string s, .int .i64 a.kind, .int .i64 a.n, .string a.s, .bool true] 35) :: boxR b (.cells #[.int .i64 boot.kind, .int .i64 boot.n, .string boot.s] 31) :: Rs) _ := S
  have d0 := cellAt (S.box (b := b + 1) 2 rfl) 0 (v := .string s) rfl
  have d1 := cellAt (S.box (b := b + 1) 2 rfl) 1 (v := .int .i64 a.kind) rfl
  have d2 := cellAt (S.box (b := b + 1) 2 rfl) 2 (v := .int .i64 a.n) rfl
  have d3 := cellAt (S.box (b := b + 1) 2 rfl) 3 (v := .string a.s) rfl
  have d4 := cellAt (S.box (b := b + 1) 2 rfl) 4 (v := .bool true) rfl
  obtain ⟨q, hq⟩ : ∃ gx_, (((w1.alloc (.cells #[.int .i64 c.kind, .int .i64 c.n, .string c.s] 31))).heap.size) = gx_ := ⟨_, rfl⟩
  have S2 := S.alloc (.cells #[.int .i64 a.kind, .int .i64 a.n, .string a.s] 31)
  rw [hq] at S2
  replace S : Sep w (boxR q (.cells #[.int .i64 a.kind, .int .i64 a.n, .string a.s] 31) :: boxR x7 (.cells #[.int .i64 c.kind, .int .i64 c.n, .string c.s] 31) :: boxR (b + 1 + 1) (.cells #[.int .i64 0, .int .i64 0, .string ⟨#[]⟩] 31) :: boxR (b + 1) (.cells #[.string s, .int .i64 a.kind, .int .i64 a.n, .string a.s, .bool true] 35) :: boxR b (.cells #[.int .i64 boot.kind, .int .i64 boot.n, .string boot.s] 31) :: Rs) _ := S2
  have CM : Hid (Calls Tryd.prog 24 #[.pointer (some ⟨h, 0, none⟩), .int .i64 2, .string ⟨#[]⟩, .int .i64 0, .slice (some ⟨q, 0, none⟩) 1 1] _ fun e W' => e = .returned (.agg #[.int .i64 4, .int .i64 (H.last + 1), .string ⟨#[]⟩]) ∧ Sep w _ W') := Lib.hid (S.make (i + 5) (by simpa using HI.out) HF.out.1.G (by have := HF.out.2.1; omega) (tupleO [a]) (.slice (some ⟨q, 0, none⟩) 1 1) (seesV_oneF a (S.box (b := q) 0 rfl)) (by simp [tupleO]) rfl (by simp [tupleO]) (by simp [tupleO]))
  clear S
  go_wp2_with fail
  try simp only [hx7, hq]
  refine CM.out.mono ?_
  rintro e w2 ⟨rfl, S⟩
  clear CM d0 d1 d2 d3 d4 hx7 hq
  replace S : Sep w (boxR q (.cells #[.int .i64 a.kind, .int .i64 a.n, .string a.s] 31) :: boxR x7 (.cells #[.int .i64 c.kind, .int .i64 c.n, .string c.s] 31) :: boxR (b + 1 + 1) (.cells #[.int .i64 0, .int .i64 0, .string ⟨#[]⟩] 31) :: boxR (b + 1) (.cells #[.string s, .int .i64 a.kind, .int .i64 a.n, .string a.s, .bool true] 35) :: boxR b (.cells #[.int .i64 boot.kind, .int .i64 boot.n, .string boot.s] 31) :: Rs.set i (heapR h (madeT H [a]))) _ := S
  have HI1 : Hid ((Rs.set i (heapR h (madeT H [a])))[i]? = some (heapR h (madeT H [a]))) := Lib.hid (set_at HI.out)
  have FT : Hid ((madeT H [a]).Fit (N + 3)) := Lib.hid (HF.out.1.addP (tupleO [a]) ⟨by show (1 : Int) ≤ 2; decide, by show (2 : Int) ≤ 12; decide⟩ rfl (by simp [tupleO]))
  obtain ⟨x10, hx10⟩ : ∃ gx_, (w2.heap.size) = gx_ := ⟨_, rfl⟩
  replace S := (S.alloc (.cells #[.int .i64 4, .int .i64 (H.last + 1), .string ⟨#[]⟩] 31))
  simp only [World.size_alloc, hx10] at S
  replace S : Sep w (boxR x10 (.cells #[.int .i64 4, .int .i64 (H.last + 1), .string ⟨#[]⟩] 31) :: boxR q (.cells #[.int .i64 a.kind, .int .i64 a.n, .string a.s] 31) :: boxR x7 (.cells #[.int .i64 c.kind, .int .i64 c.n, .string c.s] 31) :: boxR (b + 1 + 1) (.cells #[.int .i64 0, .int .i64 0, .string ⟨#[]⟩] 31) :: boxR (b + 1) (.cells #[.string s, .int .i64 a.kind, .int .i64 a.n, .string a.s, .bool true] 35) :: boxR b (.cells #[.int .i64 boot.kind, .int .i64 boot.n, .string boot.s] 31) :: Rs.set i (heapR h (madeT H [a]))) _ := S
  have hcl : (madeT H [a]).isClass c = true := class_add HF.out.1.G _ HF.out.2.2
  have hl2 : (madeT H [a]).last + 1 = H.last + 2 := by show H.last + 1 + 1 = _; omega
  have CI := instance_ok S (i + 6) (by simpa using HI1.out) FT.out (by have := HF.out.2.1; omega) c (HeapM.name_le _ c) hcl
  rw [hl2] at CI
  simp only [V.val] at CI
  replace CI := Lib.hid CI
  have d0 := cellAt (S.box (b := x7) 2 rfl) 0 (v := .int .i64 c.kind) rfl
  have d1 := cellAt (S.box (b := x7) 2 rfl) 1 (v := .int .i64 c.n) rfl
  have d2 := cellAt (S.box (b := x7) 2 rfl) 2 (v := .string c.s) rfl
  clear S hcl hl2
  go_wp2_with fail
  try simp only [hx10]
  refine CI.out.mono ?_
  rintro e w3 ⟨rfl, S⟩
  clear CI d0 d1 d2 hx10
  have eset : (Rs.set i (heapR h (madeT H [a]))).set i (heapR h (madeI H c [a])) = Rs.set i (heapR h (madeI H c [a])) := List.set_set ..
  replace S : Sep w (boxR x10 (.cells #[.int .i64 4, .int .i64 (H.last + 1), .string ⟨#[]⟩] 31) :: boxR q (.cells #[.int .i64 a.kind, .int .i64 a.n, .string a.s] 31) :: boxR x7 (.cells #[.int .i64 c.kind, .int .i64 c.n, .string c.s] 31) :: boxR (b + 1 + 1) (.cells #[.int .i64 0, .int .i64 0, .string ⟨#[]⟩] 31) :: boxR (b + 1) (.cells #[.string s, .int .i64 a.kind, .int .i64 a.n, .string a.s, .bool true] 35) :: boxR b (.cells #[.int .i64 boot.kind, .int .i64 boot.n, .string boot.s] 31) :: (Rs.set i (heapR h (madeT H [a]))).set i (heapR h (madeI H c [a]))) _ := S
  rw [eset] at S
  clear eset
  have HI2 : Hid ((Rs.set i (heapR h (madeI H c [a])))[i]? = some (heapR h (madeI H c [a]))) := Lib.hid (set_at HI.out)
  obtain ⟨x11, hx11⟩ : ∃ gx_, (w3.heap.size) = gx_ := ⟨_, rfl⟩
  replace S := (S.alloc (.cells #[.int .i64 4, .int .i64 (H.last + 2), .string ⟨#[]⟩] 31))
  simp only [World.size_alloc, hx11] at S
  replace S : Sep w (boxR x11 (.cells #[.int .i64 4, .int .i64 (H.last + 2), .string ⟨#[]⟩] 31) :: boxR x10 (.cells #[.int .i64 4, .int .i64 (H.last + 1), .string ⟨#[]⟩] 31) :: boxR q (.cells #[.int .i64 a.kind, .int .i64 a.n, .string a.s] 31) :: boxR x7 (.cells #[.int .i64 c.kind, .int .i64 c.n, .string c.s] 31) :: boxR (b + 1 + 1) (.cells #[.int .i64 0, .int .i64 0, .string ⟨#[]⟩] 31) :: boxR (b + 1) (.cells #[.string s, .int .i64 a.kind, .int .i64 a.n, .string a.s, .bool true] 35) :: boxR b (.cells #[.int .i64 boot.kind, .int .i64 boot.n, .string boot.s] 31) :: Rs.set i (heapR h (madeI H c [a]))) _ := S
  obtain ⟨hn1, hn2⟩ : okI (H.last + 1) ∧ okI (H.last + 2) := by
    have hL := HF.out.1.G.ok.last
    have h1 := HF.out.1.G.wt
    have h2 := HF.out.2.1
    unfold HeapM.weight at h1
    exact ⟨okI_of (by omega), okI_of (by omega)⟩
  have e1 : refN (H.last + 1) = V.ref (H.last + 1) hn1 := refN_ok _
  have e2 : refN (H.last + 2) = V.ref (H.last + 2) hn2 := refN_ok _
  have HE := Lib.hid (And.intro e1 e2)
  clear e1 e2
  obtain ⟨baseA, hbaseA⟩ : ∃ base, base = boxR x11 (.cells #[.int .i64 4, .int .i64 (H.last + 2), .string ⟨#[]⟩] 31) :: boxR x10 (.cells #[.int .i64 4, .int .i64 (H.last + 1), .string ⟨#[]⟩] 31) :: boxR q (.cells #[.int .i64 a.kind, .int .i64 a.n, .string a.s] 31) :: boxR x7 (.cells #[.int .i64 c.kind, .int .i64 c.n, .string c.s] 31) :: boxR (b + 1 + 1) (.cells #[.int .i64 0, .int .i64 0, .string ⟨#[]⟩] 31) :: boxR (b + 1) (.cells #[.string s, .int .i64 a.kind, .int .i64 a.n, .string a.s, .bool true] 35) :: boxR b (.cells #[.int .i64 boot.kind, .int .i64 boot.n, .string boot.s] 31) :: Rs.set i (heapR h (madeI H c [a])) := ⟨_, rfl⟩
  have HbaseA := Lib.hid hbaseA
  have KbaseA : Hid (∀ W (Q : List Res), Sep w (Q ++ baseA) W → W.cell? ⟨x10, 0, none⟩ = some (.int .i64 4) ∧ W.cell? ⟨x10, 1, none⟩ = some (.int .i64 (H.last + 1)) ∧ W.cell? ⟨x10, 2, none⟩ = some (.string ⟨#[]⟩) ∧ W.cell? ⟨x11, 0, none⟩ = some (.int .i64 4) ∧ W.cell? ⟨x11, 1, none⟩ = some (.int .i64 (H.last + 2)) ∧ W.cell? ⟨x11, 2, none⟩ = some (.string ⟨#[]⟩)) := Lib.hid fun W Q T => by
    rw [hbaseA] at T
    have i0 := T.box (b := x10) (o := .cells #[.int .i64 4, .int .i64 (H.last + 1), .string ⟨#[]⟩] 31) (Q.length + 1) (by rw [List.getElem?_append_right (by omega), Nat.add_sub_cancel_left]; rfl)
    have i1 := T.box (b := x11) (o := .cells #[.int .i64 4, .int .i64 (H.last + 2), .string ⟨#[]⟩] 31) (Q.length + 0) (by rw [List.getElem?_append_right (by omega), Nat.add_sub_cancel_left]; rfl)
    exact ⟨cellAt i0 0 rfl, cellAt i0 1 rfl, cellAt i0 2 rfl, cellAt i1 0 rfl, cellAt i1 1 rfl, cellAt i1 2 rfl⟩
  obtain ⟨baseB, hbaseB⟩ : ∃ base, base = boxR x11 (.cells #[.int .i64 4, .int .i64 (H.last + 2), .string ⟨#[]⟩] 31) :: boxR x10 (.cells #[.int .i64 4, .int .i64 (H.last + 1), .string ⟨#[]⟩] 31) :: boxR q (.cells #[.int .i64 a.kind, .int .i64 a.n, .string a.s] 31) :: boxR x7 (.cells #[.int .i64 c.kind, .int .i64 c.n, .string c.s] 31) :: boxR (b + 1 + 1) (.cells #[.int .i64 0, .int .i64 0, .string ⟨#[]⟩] 31) :: boxR (b + 1) (.cells #[.string s, .int .i64 a.kind, .int .i64 a.n, .string a.s, .bool true] 35) :: boxR b (.cells #[.int .i64 boot.kind, .int .i64 boot.n, .string boot.s] 31) :: Rs.set i (heapR h (H.madeF c [a])) := ⟨_, rfl⟩
  have HbaseB := Lib.hid hbaseB
  have KbaseB : Hid (∀ W (Q : List Res), Sep w (Q ++ baseB) W → W.cell? ⟨x10, 0, none⟩ = some (.int .i64 4) ∧ W.cell? ⟨x10, 1, none⟩ = some (.int .i64 (H.last + 1)) ∧ W.cell? ⟨x10, 2, none⟩ = some (.string ⟨#[]⟩) ∧ W.cell? ⟨x11, 0, none⟩ = some (.int .i64 4) ∧ W.cell? ⟨x11, 1, none⟩ = some (.int .i64 (H.last + 2)) ∧ W.cell? ⟨x11, 2, none⟩ = some (.string ⟨#[]⟩)) := Lib.hid fun W Q T => by
    rw [hbaseB] at T
    have i0 := T.box (b := x10) (o := .cells #[.int .i64 4, .int .i64 (H.last + 1), .string ⟨#[]⟩] 31) (Q.length + 1) (by rw [List.getElem?_append_right (by omega), Nat.add_sub_cancel_left]; rfl)
    have i1 := T.box (b := x11) (o := .cells #[.int .i64 4, .int .i64 (H.last + 2), .string ⟨#[]⟩] 31) (Q.length + 0) (by rw [List.getElem?_append_right (by omega), Nat.add_sub_cancel_left]; rfl)
    exact ⟨cellAt i0 0 rfl, cellAt i0 1 rfl, cellAt i0 2 rfl, cellAt i1 0 rfl, cellAt i1 1 rfl, cellAt i1 2 rfl⟩
  have KY : Hid (∀ W (Q : List Res), Sep w (Q ++ baseA) W → Calls Tryd.prog 38 #[.string ⟨#[97, 114, 103, 115]⟩] W fun e W' => e = .returned (.agg #[.int .i64 3, .int .i64 0, .string ⟨#[97, 114, 103, 115]⟩]) ∧ Sep w (Q ++ baseA) W') := Lib.hid fun W Q T => by
    exact (ftext_ok W _).mono fun e W' ⟨e1, e2⟩ => ⟨e1, T.later e2⟩
  have eset2 : (Rs.set i (heapR h (madeI H c [a]))).set i (heapR h (H.madeF c [a])) = Rs.set i (heapR h (H.madeF c [a])) := List.set_set ..
  have HE2 := Lib.hid eset2
  clear eset2
  have KP : Hid (∀ W (Q : List Res), Sep w (Q ++ baseA) W → Calls Tryd.prog 37 #[.pointer (some ⟨h, 0, none⟩), .agg #[.int .i64 4, .int .i64 (H.last + 2), .string ⟨#[]⟩], .agg #[.int .i64 3, .int .i64 0, .string ⟨#[97, 114, 103, 115]⟩], .agg #[.int .i64 4, .int .i64 (H.last + 1), .string ⟨#[]⟩]] W fun e W' => (∃ b, e = .returned (.bool b)) ∧ Sep w (Q ++ baseB) W') := Lib.hid fun W Q T => by
    have hi := HI2.out
    rw [HbaseA.out] at T
    rw [HbaseB.out]
    have hh := T.put (Q.length + (i + 7)) (by rw [List.getElem?_append_right (by omega), Nat.add_sub_cancel_left]; simpa using hi) (refN (H.last + 2)) argsK (refN (H.last + 1))
    rw [List.set_append_right _ _ (by omega), Nat.add_sub_cancel_left] at hh
    rw [HE.out.1, HE.out.2] at hh
    have e3 : (madeI H c [a]).put (refN (H.last + 2)) argsK (refN (H.last + 1)) = H.madeF c [a] := rfl
    rw [HE.out.1, HE.out.2] at e3
    rw [e3] at hh
    refine hh.mono fun e W' ⟨e1, e2⟩ => ⟨⟨_, e1⟩, ?_⟩
    have e4 := HE2.out
    simp only [List.set_cons_succ] at e2
    rw [e4] at e2
    exact e2
  replace S : Sep w (baseA) (w3.alloc (.cells #[.int .i64 4, .int .i64 (H.last + 2), .string ⟨#[]⟩] 31)) := by rw [hbaseA]; exact S
  replace S := Lib.hid S
  clear hbaseA hbaseB
  go_upto_region 10 with fail
  try simp only [hx11]
  obtain ⟨Wd10, hW⟩ : ∃ gx_, ((w3.alloc (.cells #[.int .i64 4, .int .i64 (H.last + 2), .string ⟨#[]⟩] 31))) = gx_ := ⟨_, rfl⟩
  rw [hW] at S ⊢
  clear hW hx11
  go_cut [42] (fun s42 wx => Sep w baseB wx)
  case first =>
    have T0 : Sep w ([] ++ baseA) _ := S.out.drew
    clear S
    as_aux_lemma =>
      refine wp_region_held_drew (S := fun W => W.cell? ⟨x10, 0, none⟩ = some (.int .i64 4) ∧ W.cell? ⟨x10, 1, none⟩ = some (.int .i64 (H.last + 1)) ∧ W.cell? ⟨x10, 2, none⟩ = some (.string ⟨#[]⟩) ∧ W.cell? ⟨x11, 0, none⟩ = some (.int .i64 4) ∧ W.cell? ⟨x11, 1, none⟩ = some (.int .i64 (H.last + 2)) ∧ W.cell? ⟨x11, 2, none⟩ = some (.string ⟨#[]⟩)) (by kernel_rfl) (KbaseA.out _ [] T0) (fun hH => ?_); refine takeT 0 hH (hy := .inl ⟨by rfl, by (intro w hSw; try obtain ⟨u0, u1, u2, u3, u4, u5⟩ := hSw); (go_simp; try rfl)⟩) (h := ?_); simp only [Act.put, List.setIfInBounds_toArray, List.set_cons_zero, List.set_cons_succ]; refine takeT 1 hH (hy := .inl ⟨by rfl, by (intro w hSw; try obtain ⟨u0, u1, u2, u3, u4, u5⟩ := hSw); (go_simp; try rfl)⟩) (h := ?_); simp only [Act.put, List.setIfInBounds_toArray, List.set_cons_zero, List.set_cons_succ]; refine takeT 3 hH (hy := .inl ⟨by rfl, by (intro w hSw; try obtain ⟨u0, u1, u2, u3, u4, u5⟩ := hSw); (go_simp; try rfl)⟩) (h := ?_); simp only [Act.put, List.setIfInBounds_toArray, List.set_cons_zero, List.set_cons_succ]; refine readyT [2] ?_; refine consT (fun K hK => ?_) AllReadyH.nil; go_simp
      go_wp2_with (go_at_call 38; refine (KY.out _ [] T0).mono ?_; rintro e w1 ⟨rfl, T1⟩); clear hH; refine hK.out _ _ (KbaseA.out _ [] T1) (fun hH => ?_); clear hK K; refine readyT [4] ?_; refine consT (fun K hK => ?_) AllReadyH.nil; go_simp
      go_wp2_with (go_at_call 37; refine (KP.out _ [] T1).mono ?_; rintro e w2 ⟨⟨pb, rfl⟩, T2⟩); clear hH; refine hK.out _ _ (KbaseB.out _ [] T2) (fun hH => ?_); clear hK K
      refine wpAnyH_done (by kernel_rfl) ?_ _
      as_aux_lemma =>
        go_wp2_with fail
        go_meet
        exact T2
  case rest =>
    have S := hcut
    rw [HbaseB.out] at S
    clear KY KP KbaseA KbaseB HbaseA HbaseB hcut
    replace S : Sep w (boxR x11 (.cells #[.int .i64 4, .int .i64 (H.last + 2), .string ⟨#[]⟩] 31) :: boxR x10 (.cells #[.int .i64 4, .int .i64 (H.last + 1), .string ⟨#[]⟩] 31) :: boxR q (.cells #[.int .i64 a.kind, .int .i64 a.n, .string a.s] 31) :: boxR x7 (.cells #[.int .i64 c.kind, .int .i64 c.n, .string c.s] 31) :: boxR (b + 1 + 1) (.cells #[.int .i64 0, .int .i64 0, .string ⟨#[]⟩] 31) :: boxR (b + 1) (.cells #[.string s, .int .i64 a.kind, .int .i64 a.n, .string a.s, .bool true] 35) :: boxR b (.cells #[.int .i64 boot.kind, .int .i64 boot.n, .string boot.s] 31) :: Rs.set i (heapR h (H.madeF c [a]))) _ := S
    have d0 := cellAt (S.box (b := x11) 0 rfl) 0 (v := .int .i64 4) rfl
    have d1 := cellAt (S.box (b := x11) 0 rfl) 1 (v := .int .i64 (H.last + 2)) rfl
    have d2 := cellAt (S.box (b := x11) 0 rfl) 2 (v := .string ⟨#[]⟩) rfl
    have r0 := cellAt (S.box (b := b + 1 + 1) 4 rfl) 0 (v := .int .i64 0) rfl
    have r1 := cellAt (S.box (b := b + 1 + 1) 4 rfl) 1 (v := .int .i64 0) rfl
    have r2 := cellAt (S.box (b := b + 1 + 1) 4 rfl) 2 (v := .string ⟨#[]⟩) rfl
    have r3 := frozenAt (S.box (b := b + 1 + 1) 4 rfl) 0
    have r4 := frozenAt (S.box (b := b + 1 + 1) 4 rfl) 1
    have r5 := frozenAt (S.box (b := b + 1 + 1) 4 rfl) 2
    have S3 := Lib.hid (Sep.setBox (cs := #[.int .i64 4, .int .i64 (H.last + 2), .string ⟨#[]⟩]) (t := 31) (Sep.setBox (cs := #[.int .i64 4, .int .i64 0, .string ⟨#[]⟩]) (t := 31) (Sep.setBox (cs := #[.int .i64 0, .int .i64 0, .string ⟨#[]⟩]) (t := 31) S 4 rfl 0 (.int .i64 4)) 4 rfl 1 (.int .i64 (H.last + 2))) 4 rfl 2 (.string ⟨#[]⟩))
    have S4 : Hid (Sep w (Rs.set i (heapR h (H.madeF c [a]))) _) := Lib.hid S3.out.tail.tail.tail.tail.tail.tail.tail
    have N1 := Lib.hid (show b + 1 + 1 < wc.heap.size from (S.boxGe (b := b + 1 + 1) 4 rfl).2)
    clear S S3
    go_wp2
    exact bodyPost_ret (v := .agg #[.int .i64 4, .int .i64 (H.last + 2), .string ⟨#[]⟩]) (by simp [results, Tryd.results16, go_sem, d0, d1, d2, r0, r1, r2, N1.out]) rfl ⟨rfl, S4.out⟩
set_option maxRecDepth 100000 in
set_option maxHeartbeats 3200000 in
theorem fmake_false (S : Sep w Rs W) (i : Nat) (hi : Rs[i]? = some (heapR h H)) {N : Nat} (F : H.Fit N) (hN : N + 10 ≤ 4000000) (boot : V) (s : ByteArray) (hs : s.size ≤ maxLen) (a : V) (c : V) (hr : H.classF boot s hs = some c) :
    Calls Tryd.prog 16 #[.pointer (some ⟨h, 0, none⟩), boot.val, .agg #[.string s, .int .i64 a.kind, .int .i64 a.n, .string a.s, .bool false]] W fun e W' => e = .returned (.agg #[.int .i64 4, .int .i64 (H.last + 2), .string ⟨#[]⟩]) ∧ Sep w (Rs.set i (heapR h (H.madeF c []))) W' := by
  obtain ⟨b, hb⟩ : ∃ gx_, (W.heap.size) = gx_ := ⟨_, rfl⟩
  have S2 := ((S.alloc (.cells #[.int .i64 boot.kind, .int .i64 boot.n, .string boot.s] 31)).alloc (.cells #[.string s, .int .i64 a.kind, .int .i64 a.n, .string a.s, .bool false] 35)).alloc (.cells #[.int .i64 0, .int .i64 0, .string ⟨#[]⟩] 31)
  simp only [World.size_alloc, hb] at S2
  replace S : Sep w (boxR (b + 1 + 1) (.cells #[.int .i64 0, .int .i64 0, .string ⟨#[]⟩] 31) :: boxR (b + 1) (.cells #[.string s, .int .i64 a.kind, .int .i64 a.n, .string a.s, .bool false] 35) :: boxR b (.cells #[.int .i64 boot.kind, .int .i64 boot.n, .string boot.s] 31) :: Rs) _ := S2
  clear S2
  have C1 := fclass_ok S (i + 3) (by simpa using hi) boot s hs
  rw [hr] at C1
  have hc := classF_some hr
  rw [hc.1] at C1
  simp only [Option.getD_some, Option.isSome_some, V.val] at C1
  have HI := Lib.hid hi
  have HF := Lib.hid (And.intro F (And.intro hN (show H.isClass c = true by unfold HeapM.isClass; simp [hc.2])))
  clear hc hi F hN hr
  have d0 := cellAt (S.box (b := b) 2 rfl) 0 (v := .int .i64 boot.kind) rfl
  have d1 := cellAt (S.box (b := b) 2 rfl) 1 (v := .int .i64 boot.n) rfl
  have d2 := cellAt (S.box (b := b) 2 rfl) 2 (v := .string boot.s) rfl
  have d3 := cellAt (S.box (b := b + 1) 1 rfl) 0 (v := .string s) rfl
  have d4 := cellAt (S.box (b := b + 1) 1 rfl) 1 (v := .int .i64 a.kind) rfl
  have d5 := cellAt (S.box (b := b + 1) 1 rfl) 2 (v := .int .i64 a.n) rfl
  have d6 := cellAt (S.box (b := b + 1) 1 rfl) 3 (v := .string a.s) rfl
  have d7 := cellAt (S.box (b := b + 1) 1 rfl) 4 (v := .bool false) rfl
  replace C1 := Lib.hid C1
  simp only [V.val]
  clear S
  go_enter Tryd.func16, Tryd.ntmps16
  go_wp2_with fail
  try simp only [hb]
  refine C1.out.mono ?_
  rintro e w1 ⟨rfl, S⟩
  clear C1 hb d0 d1 d2 d3 d4 d5 d6 d7
  replace S : Sep w (boxR (b + 1 + 1) (.cells #[.int .i64 0, .int .i64 0, .string ⟨#[]⟩] 31) :: boxR (b + 1) (.cells #[.string s, .int .i64 a.kind, .int .i64 a.n, .string a.s, .bool false] 35) :: boxR b (.cells #[.int .i64 boot.kind, .int .i64 boot.n, .string boot.s] 31) :: Rs) _ := S
  obtain ⟨x7, hx7⟩ : ∃ gx_, (w1.heap.size) = gx_ := ⟨_, rfl⟩
  replace S := (S.alloc (.cells #[.int .i64 c.kind, .int .i64 c.n, .string c.s] 31))
  simp only [World.size_alloc, hx7] at S
  replace S : Sep w (boxR x7 (.cells #[.int .i64 c.kind, .int .i64 c.n, .string c.s] 31) :: boxR (b + 1 + 1) (.cells #[.int .i64 0, .int .i64 0, .string ⟨#[]⟩] 31) :: boxR (b + 1) (.cells #[.string s, .int .i64 a.kind, .int .i64 a.n, .string a.s, .bool false] 35) :: boxR b (.cells #[.int .i64 boot.kind, .int .i64 boot.n, .string boot.s] 31) :: Rs) _ := S
  have d0 := cellAt (S.box (b := b + 1) 2 rfl) 0 (v := .string s) rfl
  have d1 := cellAt (S.box (b := b + 1) 2 rfl) 1 (v := .int .i64 a.kind) rfl
  have d2 := cellAt (S.box (b := b + 1) 2 rfl) 2 (v := .int .i64 a.n) rfl
  have d3 := cellAt (S.box (b := b + 1) 2 rfl) 3 (v := .string a.s) rfl
  have d4 := cellAt (S.box (b := b + 1) 2 rfl) 4 (v := .bool false) rfl
  have CM : Hid (Calls Tryd.prog 24 #[.pointer (some ⟨h, 0, none⟩), .int .i64 2, .string ⟨#[]⟩, .int .i64 0, .slice none 0 0] _ fun e W' => e = .returned (.agg #[.int .i64 4, .int .i64 (H.last + 1), .string ⟨#[]⟩]) ∧ Sep w _ W') := Lib.hid (S.make (i + 4) (by simpa using HI.out) HF.out.1.G (by have := HF.out.2.1; omega) (tupleO []) (.slice none 0 0) (show SeesV _ (.slice none 0 0) [] from ⟨none, 0, rfl, by simp, by simp, .inl rfl⟩) (by simp [tupleO]) rfl (by simp [tupleO]) (by simp [tupleO]))
  clear S
  go_wp2_with fail
  try simp only [hx7]
  refine CM.out.mono ?_
  rintro e w2 ⟨rfl, S⟩
  clear CM d0 d1 d2 d3 d4 hx7 
  replace S : Sep w (boxR x7 (.cells #[.int .i64 c.kind, .int .i64 c.n, .string c.s] 31) :: boxR (b + 1 + 1) (.cells #[.int .i64 0, .int .i64 0, .string ⟨#[]⟩] 31) :: boxR (b + 1) (.cells #[.string s, .int .i64 a.kind, .int .i64 a.n, .string a.s, .bool false] 35) :: boxR b (.cells #[.int .i64 boot.kind, .int .i64 boot.n, .string boot.s] 31) :: Rs.set i (heapR h (madeT H []))) _ := S
  have HI1 : Hid ((Rs.set i (heapR h (madeT H [])))[i]? = some (heapR h (madeT H []))) := Lib.hid (set_at HI.out)
  have FT : Hid ((madeT H []).Fit (N + 3)) := Lib.hid (HF.out.1.addP (tupleO []) ⟨by show (1 : Int) ≤ 2; decide, by show (2 : Int) ≤ 12; decide⟩ rfl (by simp [tupleO]))
  obtain ⟨x10, hx10⟩ : ∃ gx_, (w2.heap.size) = gx_ := ⟨_, rfl⟩
  replace S := (S.alloc (.cells #[.int .i64 4, .int .i64 (H.last + 1), .string ⟨#[]⟩] 31))
  simp only [World.size_alloc, hx10] at S
  replace S : Sep w (boxR x10 (.cells #[.int .i64 4, .int .i64 (H.last + 1), .string ⟨#[]⟩] 31) :: boxR x7 (.cells #[.int .i64 c.kind, .int .i64 c.n, .string c.s] 31) :: boxR (b + 1 + 1) (.cells #[.int .i64 0, .int .i64 0, .string ⟨#[]⟩] 31) :: boxR (b + 1) (.cells #[.string s, .int .i64 a.kind, .int .i64 a.n, .string a.s, .bool false] 35) :: boxR b (.cells #[.int .i64 boot.kind, .int .i64 boot.n, .string boot.s] 31) :: Rs.set i (heapR h (madeT H []))) _ := S
  have hcl : (madeT H []).isClass c = true := class_add HF.out.1.G _ HF.out.2.2
  have hl2 : (madeT H []).last + 1 = H.last + 2 := by show H.last + 1 + 1 = _; omega
  have CI := instance_ok S (i + 5) (by simpa using HI1.out) FT.out (by have := HF.out.2.1; omega) c (HeapM.name_le _ c) hcl
  rw [hl2] at CI
  simp only [V.val] at CI
  replace CI := Lib.hid CI
  have d0 := cellAt (S.box (b := x7) 1 rfl) 0 (v := .int .i64 c.kind) rfl
  have d1 := cellAt (S.box (b := x7) 1 rfl) 1 (v := .int .i64 c.n) rfl
  have d2 := cellAt (S.box (b := x7) 1 rfl) 2 (v := .string c.s) rfl
  clear S hcl hl2
  go_wp2_with fail
  try simp only [hx10]
  refine CI.out.mono ?_
  rintro e w3 ⟨rfl, S⟩
  clear CI d0 d1 d2 hx10
  have eset : (Rs.set i (heapR h (madeT H []))).set i (heapR h (madeI H c [])) = Rs.set i (heapR h (madeI H c [])) := List.set_set ..
  replace S : Sep w (boxR x10 (.cells #[.int .i64 4, .int .i64 (H.last + 1), .string ⟨#[]⟩] 31) :: boxR x7 (.cells #[.int .i64 c.kind, .int .i64 c.n, .string c.s] 31) :: boxR (b + 1 + 1) (.cells #[.int .i64 0, .int .i64 0, .string ⟨#[]⟩] 31) :: boxR (b + 1) (.cells #[.string s, .int .i64 a.kind, .int .i64 a.n, .string a.s, .bool false] 35) :: boxR b (.cells #[.int .i64 boot.kind, .int .i64 boot.n, .string boot.s] 31) :: (Rs.set i (heapR h (madeT H []))).set i (heapR h (madeI H c []))) _ := S
  rw [eset] at S
  clear eset
  have HI2 : Hid ((Rs.set i (heapR h (madeI H c [])))[i]? = some (heapR h (madeI H c []))) := Lib.hid (set_at HI.out)
  obtain ⟨x11, hx11⟩ : ∃ gx_, (w3.heap.size) = gx_ := ⟨_, rfl⟩
  replace S := (S.alloc (.cells #[.int .i64 4, .int .i64 (H.last + 2), .string ⟨#[]⟩] 31))
  simp only [World.size_alloc, hx11] at S
  replace S : Sep w (boxR x11 (.cells #[.int .i64 4, .int .i64 (H.last + 2), .string ⟨#[]⟩] 31) :: boxR x10 (.cells #[.int .i64 4, .int .i64 (H.last + 1), .string ⟨#[]⟩] 31) :: boxR x7 (.cells #[.int .i64 c.kind, .int .i64 c.n, .string c.s] 31) :: boxR (b + 1 + 1) (.cells #[.int .i64 0, .int .i64 0, .string ⟨#[]⟩] 31) :: boxR (b + 1) (.cells #[.string s, .int .i64 a.kind, .int .i64 a.n, .string a.s, .bool false] 35) :: boxR b (.cells #[.int .i64 boot.kind, .int .i64 boot.n, .string boot.s] 31) :: Rs.set i (heapR h (madeI H c []))) _ := S
  obtain ⟨hn1, hn2⟩ : okI (H.last + 1) ∧ okI (H.last + 2) := by
    have hL := HF.out.1.G.ok.last
    have h1 := HF.out.1.G.wt
    have h2 := HF.out.2.1
    unfold HeapM.weight at h1
    exact ⟨okI_of (by omega), okI_of (by omega)⟩
  have e1 : refN (H.last + 1) = V.ref (H.last + 1) hn1 := refN_ok _
  have e2 : refN (H.last + 2) = V.ref (H.last + 2) hn2 := refN_ok _
  have HE := Lib.hid (And.intro e1 e2)
  clear e1 e2
  obtain ⟨baseA, hbaseA⟩ : ∃ base, base = boxR x11 (.cells #[.int .i64 4, .int .i64 (H.last + 2), .string ⟨#[]⟩] 31) :: boxR x10 (.cells #[.int .i64 4, .int .i64 (H.last + 1), .string ⟨#[]⟩] 31) :: boxR x7 (.cells #[.int .i64 c.kind, .int .i64 c.n, .string c.s] 31) :: boxR (b + 1 + 1) (.cells #[.int .i64 0, .int .i64 0, .string ⟨#[]⟩] 31) :: boxR (b + 1) (.cells #[.string s, .int .i64 a.kind, .int .i64 a.n, .string a.s, .bool false] 35) :: boxR b (.cells #[.int .i64 boot.kind, .int .i64 boot.n, .string boot.s] 31) :: Rs.set i (heapR h (madeI H c [])) := ⟨_, rfl⟩
  have HbaseA := Lib.hid hbaseA
  have KbaseA : Hid (∀ W (Q : List Res), Sep w (Q ++ baseA) W → W.cell? ⟨x10, 0, none⟩ = some (.int .i64 4) ∧ W.cell? ⟨x10, 1, none⟩ = some (.int .i64 (H.last + 1)) ∧ W.cell? ⟨x10, 2, none⟩ = some (.string ⟨#[]⟩) ∧ W.cell? ⟨x11, 0, none⟩ = some (.int .i64 4) ∧ W.cell? ⟨x11, 1, none⟩ = some (.int .i64 (H.last + 2)) ∧ W.cell? ⟨x11, 2, none⟩ = some (.string ⟨#[]⟩)) := Lib.hid fun W Q T => by
    rw [hbaseA] at T
    have i0 := T.box (b := x10) (o := .cells #[.int .i64 4, .int .i64 (H.last + 1), .string ⟨#[]⟩] 31) (Q.length + 1) (by rw [List.getElem?_append_right (by omega), Nat.add_sub_cancel_left]; rfl)
    have i1 := T.box (b := x11) (o := .cells #[.int .i64 4, .int .i64 (H.last + 2), .string ⟨#[]⟩] 31) (Q.length + 0) (by rw [List.getElem?_append_right (by omega), Nat.add_sub_cancel_left]; rfl)
    exact ⟨cellAt i0 0 rfl, cellAt i0 1 rfl, cellAt i0 2 rfl, cellAt i1 0 rfl, cellAt i1 1 rfl, cellAt i1 2 rfl⟩
  obtain ⟨baseB, hbaseB⟩ : ∃ base, base = boxR x11 (.cells #[.int .i64 4, .int .i64 (H.last + 2), .string ⟨#[]⟩] 31) :: boxR x10 (.cells #[.int .i64 4, .int .i64 (H.last + 1), .string ⟨#[]⟩] 31) :: boxR x7 (.cells #[.int .i64 c.kind, .int .i64 c.n, .string c.s] 31) :: boxR (b + 1 + 1) (.cells #[.int .i64 0, .int .i64 0, .string ⟨#[]⟩] 31) :: boxR (b + 1) (.cells #[.string s, .int .i64 a.kind, .int .i64 a.n, .string a.s, .bool false] 35) :: boxR b (.cells #[.int .i64 boot.kind, .int .i64 boot.n, .string boot.s] 31) :: Rs.set i (heapR h (H.madeF c [])) := ⟨_, rfl⟩
  have HbaseB := Lib.hid hbaseB
  have KbaseB : Hid (∀ W (Q : List Res), Sep w (Q ++ baseB) W → W.cell? ⟨x10, 0, none⟩ = some (.int .i64 4) ∧ W.cell? ⟨x10, 1, none⟩ = some (.int .i64 (H.last + 1)) ∧ W.cell? ⟨x10, 2, none⟩ = some (.string ⟨#[]⟩) ∧ W.cell? ⟨x11, 0, none⟩ = some (.int .i64 4) ∧ W.cell? ⟨x11, 1, none⟩ = some (.int .i64 (H.last + 2)) ∧ W.cell? ⟨x11, 2, none⟩ = some (.string ⟨#[]⟩)) := Lib.hid fun W Q T => by
    rw [hbaseB] at T
    have i0 := T.box (b := x10) (o := .cells #[.int .i64 4, .int .i64 (H.last + 1), .string ⟨#[]⟩] 31) (Q.length + 1) (by rw [List.getElem?_append_right (by omega), Nat.add_sub_cancel_left]; rfl)
    have i1 := T.box (b := x11) (o := .cells #[.int .i64 4, .int .i64 (H.last + 2), .string ⟨#[]⟩] 31) (Q.length + 0) (by rw [List.getElem?_append_right (by omega), Nat.add_sub_cancel_left]; rfl)
    exact ⟨cellAt i0 0 rfl, cellAt i0 1 rfl, cellAt i0 2 rfl, cellAt i1 0 rfl, cellAt i1 1 rfl, cellAt i1 2 rfl⟩
  have KY : Hid (∀ W (Q : List Res), Sep w (Q ++ baseA) W → Calls Tryd.prog 38 #[.string ⟨#[97, 114, 103, 115]⟩] W fun e W' => e = .returned (.agg #[.int .i64 3, .int .i64 0, .string ⟨#[97, 114, 103, 115]⟩]) ∧ Sep w (Q ++ baseA) W') := Lib.hid fun W Q T => by
    exact (ftext_ok W _).mono fun e W' ⟨e1, e2⟩ => ⟨e1, T.later e2⟩
  have eset2 : (Rs.set i (heapR h (madeI H c []))).set i (heapR h (H.madeF c [])) = Rs.set i (heapR h (H.madeF c [])) := List.set_set ..
  have HE2 := Lib.hid eset2
  clear eset2
  have KP : Hid (∀ W (Q : List Res), Sep w (Q ++ baseA) W → Calls Tryd.prog 37 #[.pointer (some ⟨h, 0, none⟩), .agg #[.int .i64 4, .int .i64 (H.last + 2), .string ⟨#[]⟩], .agg #[.int .i64 3, .int .i64 0, .string ⟨#[97, 114, 103, 115]⟩], .agg #[.int .i64 4, .int .i64 (H.last + 1), .string ⟨#[]⟩]] W fun e W' => (∃ b, e = .returned (.bool b)) ∧ Sep w (Q ++ baseB) W') := Lib.hid fun W Q T => by
    have hi := HI2.out
    rw [HbaseA.out] at T
    rw [HbaseB.out]
    have hh := T.put (Q.length + (i + 6)) (by rw [List.getElem?_append_right (by omega), Nat.add_sub_cancel_left]; simpa using hi) (refN (H.last + 2)) argsK (refN (H.last + 1))
    rw [List.set_append_right _ _ (by omega), Nat.add_sub_cancel_left] at hh
    rw [HE.out.1, HE.out.2] at hh
    have e3 : (madeI H c []).put (refN (H.last + 2)) argsK (refN (H.last + 1)) = H.madeF c [] := rfl
    rw [HE.out.1, HE.out.2] at e3
    rw [e3] at hh
    refine hh.mono fun e W' ⟨e1, e2⟩ => ⟨⟨_, e1⟩, ?_⟩
    have e4 := HE2.out
    simp only [List.set_cons_succ] at e2
    rw [e4] at e2
    exact e2
  replace S : Sep w (baseA) (w3.alloc (.cells #[.int .i64 4, .int .i64 (H.last + 2), .string ⟨#[]⟩] 31)) := by rw [hbaseA]; exact S
  replace S := Lib.hid S
  clear hbaseA hbaseB
  go_upto_region 10 with fail
  try simp only [hx11]
  obtain ⟨Wd10, hW⟩ : ∃ gx_, ((w3.alloc (.cells #[.int .i64 4, .int .i64 (H.last + 2), .string ⟨#[]⟩] 31))) = gx_ := ⟨_, rfl⟩
  rw [hW] at S ⊢
  clear hW hx11
  go_cut [42] (fun s42 wx => Sep w baseB wx)
  case first =>
    have T0 : Sep w ([] ++ baseA) _ := S.out.drew
    clear S
    as_aux_lemma =>
      refine wp_region_held_drew (S := fun W => W.cell? ⟨x10, 0, none⟩ = some (.int .i64 4) ∧ W.cell? ⟨x10, 1, none⟩ = some (.int .i64 (H.last + 1)) ∧ W.cell? ⟨x10, 2, none⟩ = some (.string ⟨#[]⟩) ∧ W.cell? ⟨x11, 0, none⟩ = some (.int .i64 4) ∧ W.cell? ⟨x11, 1, none⟩ = some (.int .i64 (H.last + 2)) ∧ W.cell? ⟨x11, 2, none⟩ = some (.string ⟨#[]⟩)) (by kernel_rfl) (KbaseA.out _ [] T0) (fun hH => ?_); refine takeT 0 hH (hy := .inl ⟨by rfl, by (intro w hSw; try obtain ⟨u0, u1, u2, u3, u4, u5⟩ := hSw); (go_simp; try rfl)⟩) (h := ?_); simp only [Act.put, List.setIfInBounds_toArray, List.set_cons_zero, List.set_cons_succ]; refine takeT 1 hH (hy := .inl ⟨by rfl, by (intro w hSw; try obtain ⟨u0, u1, u2, u3, u4, u5⟩ := hSw); (go_simp; try rfl)⟩) (h := ?_); simp only [Act.put, List.setIfInBounds_toArray, List.set_cons_zero, List.set_cons_succ]; refine takeT 3 hH (hy := .inl ⟨by rfl, by (intro w hSw; try obtain ⟨u0, u1, u2, u3, u4, u5⟩ := hSw); (go_simp; try rfl)⟩) (h := ?_); simp only [Act.put, List.setIfInBounds_toArray, List.set_cons_zero, List.set_cons_succ]; refine readyT [2] ?_; refine consT (fun K hK => ?_) AllReadyH.nil; go_simp
      go_wp2_with (go_at_call 38; refine (KY.out _ [] T0).mono ?_; rintro e w1 ⟨rfl, T1⟩); clear hH; refine hK.out _ _ (KbaseA.out _ [] T1) (fun hH => ?_); clear hK K; refine readyT [4] ?_; refine consT (fun K hK => ?_) AllReadyH.nil; go_simp
      go_wp2_with (go_at_call 37; refine (KP.out _ [] T1).mono ?_; rintro e w2 ⟨⟨pb, rfl⟩, T2⟩); clear hH; refine hK.out _ _ (KbaseB.out _ [] T2) (fun hH => ?_); clear hK K
      refine wpAnyH_done (by kernel_rfl) ?_ _
      as_aux_lemma =>
        go_wp2_with fail
        go_meet
        exact T2
  case rest =>
    have S := hcut
    rw [HbaseB.out] at S
    clear KY KP KbaseA KbaseB HbaseA HbaseB hcut
    replace S : Sep w (boxR x11 (.cells #[.int .i64 4, .int .i64 (H.last + 2), .string ⟨#[]⟩] 31) :: boxR x10 (.cells #[.int .i64 4, .int .i64 (H.last + 1), .string ⟨#[]⟩] 31) :: boxR x7 (.cells #[.int .i64 c.kind, .int .i64 c.n, .string c.s] 31) :: boxR (b + 1 + 1) (.cells #[.int .i64 0, .int .i64 0, .string ⟨#[]⟩] 31) :: boxR (b + 1) (.cells #[.string s, .int .i64 a.kind, .int .i64 a.n, .string a.s, .bool false] 35) :: boxR b (.cells #[.int .i64 boot.kind, .int .i64 boot.n, .string boot.s] 31) :: Rs.set i (heapR h (H.madeF c []))) _ := S
    have d0 := cellAt (S.box (b := x11) 0 rfl) 0 (v := .int .i64 4) rfl
    have d1 := cellAt (S.box (b := x11) 0 rfl) 1 (v := .int .i64 (H.last + 2)) rfl
    have d2 := cellAt (S.box (b := x11) 0 rfl) 2 (v := .string ⟨#[]⟩) rfl
    have r0 := cellAt (S.box (b := b + 1 + 1) 3 rfl) 0 (v := .int .i64 0) rfl
    have r1 := cellAt (S.box (b := b + 1 + 1) 3 rfl) 1 (v := .int .i64 0) rfl
    have r2 := cellAt (S.box (b := b + 1 + 1) 3 rfl) 2 (v := .string ⟨#[]⟩) rfl
    have r3 := frozenAt (S.box (b := b + 1 + 1) 3 rfl) 0
    have r4 := frozenAt (S.box (b := b + 1 + 1) 3 rfl) 1
    have r5 := frozenAt (S.box (b := b + 1 + 1) 3 rfl) 2
    have S3 := Lib.hid (Sep.setBox (cs := #[.int .i64 4, .int .i64 (H.last + 2), .string ⟨#[]⟩]) (t := 31) (Sep.setBox (cs := #[.int .i64 4, .int .i64 0, .string ⟨#[]⟩]) (t := 31) (Sep.setBox (cs := #[.int .i64 0, .int .i64 0, .string ⟨#[]⟩]) (t := 31) S 3 rfl 0 (.int .i64 4)) 3 rfl 1 (.int .i64 (H.last + 2))) 3 rfl 2 (.string ⟨#[]⟩))
    have S4 : Hid (Sep w (Rs.set i (heapR h (H.madeF c []))) _) := Lib.hid S3.out.tail.tail.tail.tail.tail.tail
    have N1 := Lib.hid (show b + 1 + 1 < wc.heap.size from (S.boxGe (b := b + 1 + 1) 3 rfl).2)
    clear S S3
    go_wp2
    exact bodyPost_ret (v := .agg #[.int .i64 4, .int .i64 (H.last + 2), .string ⟨#[]⟩]) (by simp [results, Tryd.results16, go_sem, d0, d1, d2, r0, r1, r2, N1.out]) rfl ⟨rfl, S4.out⟩
end
end Go.Proofs.YtobcnffjfclolaaDoor
/- fault: Boot. -/
namespace Go.Proofs.YtobcnffjfclolaaDoor
set_option linter.unusedSimpArgs false
open Go.RowKit
open Go.Maps (Keyed)
set_option linter.unusedVariables false
attribute [local go_sem] Oper.semAt_some
theorem keyB : Keyed Tryd.prog 9 := Maps.string_keyed Tryd.underlying9
theorem strInj : ∀ a b : ByteArray, Value.string a = Value.string b → a = b := fun a b h => by injection h
/-- A map of values by names. -/
def mapF (b : Nat) (l : List (ByteArray × V)) : Res := ⟨fun W F => mapIs W Tryd.prog 9 Value.string V.val b l ∧ F = [b], fun {W W' F} h k => ⟨h.1.of_block (k b (by rw [h.2]; simp)), h.2⟩, fun {W F} h b' hb => by
  rw [h.2] at hb; simp at hb; subst hb; exact h.1.lt⟩
theorem keyOfB {s : ByteArray} (hs : s.size ≤ maxLen) : ∃ kl, keyOf Tryd.prog 9 (.string s) = some kl := ⟨_, Go.WideMaps.keyOf_string_mk Tryd.underlying9 hs⟩
section
variable {w W : World} {Rs : List Res}
theorem Sep.mapLook (S : Sep w Rs W) {m : Nat} {l : List (ByteArray × V)} (i : Nat) (hi : Rs[i]? = some (mapF m l)) (s : ByteArray) (hs : s.size ≤ maxLen) : (Instr.lookup 72 (.map (some m)) (.string s) false).run Tryd.prog W = .ok ((getL l s).getD V.zero).val W := by
  obtain ⟨F, h, _⟩ := S.get i hi
  obtain ⟨kl, hkl⟩ := keyOfB hs
  have := h.1.look strInj keyB Tryd.underlying72 (z := V.zero.val) (Tryd.zeroValue31 W) hkl false
  rw [this]
  cases getL l s <;> rfl
theorem Sep.mapPut (S : Sep w Rs W) {m : Nat} {l : List (ByteArray × V)} (i : Nat) (hi : Rs[i]? = some (mapF m l)) (s : ByteArray) (hs : s.size ≤ maxLen) (v : V) : ∃ W', (Instr.mapUpdate 72 (.map (some m)) (.string s) v.val).run Tryd.prog W = .ok () W' ∧ Sep w (Rs.set i (mapF m (putL l s v))) W' := by
  obtain ⟨F, h, _⟩ := S.get i hi
  obtain ⟨kl, hkl⟩ := keyOfB hs
  obtain ⟨W', h1, h2, h3⟩ := h.1.update strInj keyB Tryd.underlying72 hkl v
  refine ⟨W', h1, S.turn i hi fun F2 hF hn _ => ⟨F2, ⟨h2, hF.2⟩, hn, Grow.refl _ _, ?_⟩⟩
  rw [hF.2]
  exact Outside.of_grown h3.2
theorem Sep.mapMade (S : Sep w Rs W) : Sep w (mapF W.heap.size [] :: Rs) (W.alloc (.map #[] 0)) :=
  S.add (belowAlloc W _) (G := [W.heap.size]) ⟨mapIs_made W _ _ _ _, rfl⟩ (by simp) (by simp)
end
noncomputable def mapL (L : Int) (k : Nat) : List (ByteArray × V) := (List.range k).map fun (j : Nat) => (nameF j, refN (L + 2 + (j : Int)))
theorem mapL_nd (L : Int) {k : Nat} (hk : k ≤ 17) : ((mapL L k).map (·.1)).Nodup := by
  unfold mapL
  rw [List.map_map, List.nodup_iff_pairwise_ne, List.pairwise_map]
  refine (List.nodup_iff_pairwise_ne.1 List.nodup_range).imp_of_mem fun {a b} ha hb hab e => hab ?_
  have ha := List.mem_range.1 ha
  have hb := List.mem_range.1 hb
  exact nameF_inj a (by omega) b (by omega) e
theorem mapL_get (L : Int) {j k : Nat} (hj : j < k) (hk : k ≤ 17) : getL (mapL L k) (nameF j) = some (refN (L + 2 + (j : Int))) := by
  refine getL_of_get (mapL_nd L hk) (j := j) ?_
  unfold mapL
  rw [List.getElem?_map, List.getElem?_range hj]; rfl
theorem mapL_put (L : Int) {k : Nat} (hk : k < 17) : putL (mapL L k) (nameF k) (refN (L + 2 + (k : Int))) = mapL L (k + 1) := by
  have h : getL (mapL L k) (nameF k) = none := by
    rw [getL_none]
    intro p hp e
    unfold mapL at hp
    obtain ⟨j, hj, rfl⟩ := List.mem_map.1 hp
    have hj := List.mem_range.1 hj
    have := nameF_inj j (by omega) k hk e
    omega
  rw [putL_none _ h]
  unfold mapL
  rw [List.range_succ, List.map_append]; rfl
theorem eraseIdx_set_self {α : Type} : ∀ (l : List α) (i : Nat) (x : α), (l.set i x).eraseIdx i = l.eraseIdx i
  | [], i, x => by simp
  | a :: l, 0, x => rfl
  | a :: l, i + 1, x => by simp [eraseIdx_set_self l i x]
/-- A thing pulled ahead of all, and put back as another one. -/
theorem pull_set {i : Nat} {R R' : Res} {Rs : List Res} (hi : Rs[i]? = some R) : (R' :: Rs.eraseIdx i).Perm (Rs.set i R') := by
  have h : (Rs.set i R')[i]? = some R' := set_at hi
  have := pull_perm h
  rw [eraseIdx_set_self] at this
  exact (List.perm_append_singleton R' (Rs.eraseIdx i)).symm.trans this.symm
section
variable {w W : World} {Rs : List Res} {h : Nat} {H : HeapM}
set_option maxRecDepth 100000 in
set_option maxHeartbeats 6400000 in
theorem boot_ok (S : Sep w Rs W) (hG : GlobF w) (i : Nat) (hi : Rs[i]? = some (heapR h H)) {N : Nat} (F : H.Fit N) (C : H.Cls) (hN : N ≤ 100000) :
    Calls Tryd.prog 15 #[.pointer (some ⟨h, 0, none⟩)] W fun e W' => e = .returned (.agg #[.int .i64 4, .int .i64 (H.last + 19), .string ⟨#[]⟩]) ∧ Sep w (Rs.set i (heapR h (bootM H))) W' := by
  have hL : 0 ≤ H.last ∧ H.last ≤ 1000000 := by
    have h1 := F.G.ok.last
    have h2 := F.G.wt
    unfold HeapM.weight at h2
    omega
  have HB := Lib.hid (BootAt.all F C hL)
  have HL := Lib.hid hL
  have HF := Lib.hid (And.intro F (And.intro C hN))
  have HP : Hid (∀ X W, Sep w (heapR h X :: Rs.eraseIdx i) W → Sep w (Rs.set i (heapR h X)) W) := Lib.hid fun X W T => T.perm (pull_set hi)
  have S0 : Sep w (heapR h H :: Rs.eraseIdx i) W := S.perm ((pull_perm hi).trans (List.perm_append_singleton _ _))
  obtain ⟨RE, hRE⟩ : ∃ gx_, (Rs.eraseIdx i) = gx_ := ⟨_, rfl⟩
  rw [hRE] at S0 HP
  clear S hRE hi
  obtain ⟨b, hb⟩ : ∃ gx_, (W.heap.size) = gx_ := ⟨_, rfl⟩
  have S1 := (S0.alloc (.cells #[.pointer (some ⟨h, 0, none⟩)] 28)).alloc (.cells #[.int .i64 0, .int .i64 0, .string ⟨#[]⟩] 31)
  simp only [World.size_alloc, hb] at S1
  have d0 := cellAt (S1.box (b := b) 1 rfl) 0 (v := .pointer (some ⟨h, 0, none⟩)) rfl
  have CM := Lib.hid (S1.make 2 rfl F.G (by omega) dictO (.slice none 0 0) (show SeesV _ (.slice none 0 0) [] from ⟨none, 0, rfl, by simp, by simp, .inl rfl⟩) (by simp [dictO]) rfl (by simp [dictO]) (by simp [dictO]))
  have IT := Lib.hid (all_iter hG)
  have HGL := Lib.hid hG
  have hmk : ∀ w1 : World, (Instr.makeMap 72 none).run Tryd.prog w1 = .ok (.map (some w1.heap.size)) (w1.alloc (.map #[] 0)) := fun w1 => run_makeMap _ w1
  clear S0 S1 hG F C hN hL
  refine (callsIn_wide (n := 9)).1 ?_
  refine callsIn_of_wp_marks Tryd.func15 rfl trivial ?_ rfl
  simp only [Tryd.ntmps15, List.size_toArray, List.length_cons, List.length_nil, Nat.reduceAdd, Nat.reduceSub, Array.replicate_succ, Array.replicate_zero, List.push_toArray, List.append_toArray, List.nil_append, List.cons_append]
  gi_wp2_with fail
  try simp only [hb]
  refine ⟨trivial, (callsIn_wide.2 CM.out).mono ?_⟩
  rintro e w1 ⟨rfl, S2⟩
  clear CM d0 hb
  obtain ⟨x3, hx3⟩ : ∃ gx_, (w1.heap.size) = gx_ := ⟨_, rfl⟩
  have S3 := ((S2.alloc (.cells #[.int .i64 4, .int .i64 (H.last + 1), .string ⟨#[]⟩] 31)).mapMade).alloc (.cells #[.map (some (x3 + 1))] 72)
  simp only [World.size_alloc, hx3] at S3
  have ez : clsAt H 0 = H.add dictO := clsAt_zero H
  rw [← ez] at S3
  have S4 : Hid (Sep w (boxR (x3 + 1 + 1) (.cells #[.map (some (x3 + 1))] 72) :: mapF (x3 + 1) (mapL H.last 0) :: boxR x3 (.cells #[.int .i64 4, .int .i64 (H.last + 1), .string ⟨#[]⟩] 31) :: boxR (b + 1) (.cells #[.int .i64 0, .int .i64 0, .string ⟨#[]⟩] 31) :: boxR b (.cells #[.pointer (some ⟨h, 0, none⟩)] 28) :: heapR h (clsAt H 0) :: RE) _) := Lib.hid S3
  clear ez
  clear S2 S3
  gi_wp2_with fail
  try simp only [hx3]
  obtain ⟨W1, hW1⟩ : ∃ gx_, (((w1.alloc (.cells #[.int .i64 4, .int .i64 (H.last + 1), .string ⟨#[]⟩] 31)).alloc (.map #[] 0)).alloc (.cells #[.map (some (x3 + 1))] 72)) = gx_ := ⟨_, rfl⟩
  rw [hW1] at S4
  rw [hW1]
  clear hW1 hmk
  clear hx3
  refine ⟨trivial, (callsIn_wide.2 (all_ok W1)).mono ?_⟩
  rintro e W2 ⟨rfl, rfl⟩
  obtain ⟨c1, hB⟩ : ∃ gx_, (W2.heap.size) = gx_ := ⟨_, rfl⟩
  gi_wp2_with fail
  refine range_sep (w := w) (B := c1) hB (hg := rfl) enters_allF (fun _ => rfl)
    (fun k R => R = boxR (x3 + 1 + 1) (.cells #[.map (some (x3 + 1))] 72) :: mapF (x3 + 1) (mapL H.last k) :: boxR x3 (.cells #[.int .i64 4, .int .i64 (H.last + 1), .string ⟨#[]⟩] 31) :: boxR (b + 1) (.cells #[.int .i64 0, .int .i64 0, .string ⟨#[]⟩] 31) :: boxR b (.cells #[.pointer (some ⟨h, 0, none⟩)] 28) :: heapR h (clsAt H k) :: RE)
    (fun _ _ _ => False) (n := 17) (encs := allE) IT.out rfl (by rw [List.append_nil]; exact S4.out)
    (fun k s' => { tmps := #[.pointer (some ⟨h, 0, none⟩), .pointer (some ⟨b, 0, none⟩), .pointer (some ⟨b + 1, 0, none⟩), .pointer (some ⟨x3, 0, none⟩), .pointer (some ⟨x3 + 1 + 1, 0, none⟩), .string (nameF k), .string (baseF k), undef, undef, undef, .pointer (some ⟨h, 0, none⟩), .bool false, undef, .pointer (some ⟨h, 0, none⟩), .agg #[.int .i64 4, .int .i64 (H.last + 1), .string ⟨#[]⟩], .map (some (x3 + 1)), .func (.func 57) #[] #[], .string (nameF k), .string (baseF k), undef, undef, undef, undef, undef, undef, undef, undef, undef, undef, undef, undef, undef, undef, undef, undef, undef, undef, undef, undef, undef, undef, undef, undef, undef, undef, undef, undef, undef, undef, undef, undef, undef, undef, undef], defers := [] })
    (fun k W => W) (fun k s => []) (fun k W Rs _ S => S) ?assign ?body ?done ?stop
  case assign =>
    intro l k W K hk hK
    simp only [allE]
    gi_wp2
    exact hK
  case body =>
    rintro l k q _ Gs W3 hk rfl S3
    have S5 : Sep w (boxR (x3 + 1 + 1) (.cells #[.map (some (x3 + 1))] 72) :: mapF (x3 + 1) (mapL H.last k) :: boxR x3 (.cells #[.int .i64 4, .int .i64 (H.last + 1), .string ⟨#[]⟩] 31) :: boxR (b + 1) (.cells #[.int .i64 0, .int .i64 0, .string ⟨#[]⟩] 31) :: boxR b (.cells #[.pointer (some ⟨h, 0, none⟩)] 28) :: heapR h (clsAt H k) :: (RE ++ Gs)) W3 := S3
    have HK := Lib.hid hk
    have BK := Lib.hid (HB.out k (by omega))
    have hn1 : okI (H.last + 1) := okI_of ⟨by have := HL.out; omega, by have := HL.out; omega⟩
    have MK := Lib.hid (BK.out.class hk HL.out hn1)
    have hlk : (clsAt H k).last + 1 = H.last + 2 + (k : Int) := by show H.last + 1 + (k : Int) + 1 = _; omega
    have hnk : okI (H.last + 2 + (k : Int)) := okI_of ⟨by have := HL.out; omega, by have := HL.out; omega⟩
    have rk : refN (H.last + 2 + (k : Int)) = V.ref (H.last + 2 + (k : Int)) hnk := refN_ok hnk
    have HE := Lib.hid (And.intro hlk rk)
    clear S3 S4 IT hB hk hlk rk
    cases hp : parF[k]?.getD none with
    | none =>
      have hb0 : baseF k = ⟨#[]⟩ := by unfold baseF; rw [hp]
      have HBF : Hid (basesF H.last k = []) := Lib.hid (by unfold basesF; rw [hp])
      have S6 := Lib.hid S5
      simp only [hb0]; clear S5 hp hb0
      have KS : Hid (∀ W (X : HeapM) (Y : List (ByteArray × V)), Sep w (boxR (x3 + 1 + 1) (.cells #[.map (some (x3 + 1))] 72) :: mapF (x3 + 1) (Y) :: boxR x3 (.cells #[.int .i64 4, .int .i64 (H.last + 1), .string ⟨#[]⟩] 31) :: boxR (b + 1) (.cells #[.int .i64 0, .int .i64 0, .string ⟨#[]⟩] 31) :: boxR b (.cells #[.pointer (some ⟨h, 0, none⟩)] 28) :: heapR h (X) :: (RE ++ Gs)) W → W.cell? ⟨x3 + 1 + 1, 0, none⟩ = some (.map (some (x3 + 1))) ∧ W.cell? ⟨b, 0, none⟩ = some (.pointer (some ⟨h, 0, none⟩)) ∧ W.cell? ⟨x3, 0, none⟩ = some (.int .i64 4) ∧ W.cell? ⟨x3, 1, none⟩ = some (.int .i64 (H.last + 1)) ∧ W.cell? ⟨x3, 2, none⟩ = some (.string ⟨#[]⟩)) := Lib.hid fun W X Y T =>
        ⟨cellAt (T.box (b := x3 + 1 + 1) 0 rfl) 0 rfl, cellAt (T.box (b := b) 4 rfl) 0 rfl, cellAt (T.box (b := x3) 2 rfl) 0 rfl, cellAt (T.box (b := x3) 2 rfl) 1 rfl, cellAt (T.box (b := x3) 2 rfl) 2 rfl⟩
      have KC : Hid (∀ W, Sep w (boxR (x3 + 1 + 1) (.cells #[.map (some (x3 + 1))] 72) :: mapF (x3 + 1) (mapL H.last k) :: boxR x3 (.cells #[.int .i64 4, .int .i64 (H.last + 1), .string ⟨#[]⟩] 31) :: boxR (b + 1) (.cells #[.int .i64 0, .int .i64 0, .string ⟨#[]⟩] 31) :: boxR b (.cells #[.pointer (some ⟨h, 0, none⟩)] 28) :: heapR h (clsAt H k) :: (RE ++ Gs)) W → Calls Tryd.prog 25 #[.pointer (some ⟨h, 0, none⟩), .string (nameF k), .slice none 0 0, .agg #[.int .i64 4, .int .i64 (H.last + 1), .string ⟨#[]⟩]] W fun e W' => e = .returned (.tuple #[.agg #[.int .i64 4, .int .i64 (H.last + 2 + (k : Int)), .string ⟨#[]⟩], excZ]) ∧ Sep w (boxR (x3 + 1 + 1) (.cells #[.map (some (x3 + 1))] 72) :: mapF (x3 + 1) (mapL H.last k) :: boxR x3 (.cells #[.int .i64 4, .int .i64 (H.last + 1), .string ⟨#[]⟩] 31) :: boxR (b + 1) (.cells #[.int .i64 0, .int .i64 0, .string ⟨#[]⟩] 31) :: boxR b (.cells #[.pointer (some ⟨h, 0, none⟩)] 28) :: heapR h (clsAt H (k + 1)) :: (RE ++ Gs)) W') := Lib.hid fun W T => by
        have hh := class_ok T 5 rfl BK.out.fit (nameF k) (nameF_le k) none 0 (basesF H.last k) (fun W' T' => by rw [HBF.out]; exact ⟨none, 0, rfl, by simp, by simp, .inl rfl⟩) (V.ref (H.last + 1) hn1) (by rw [HBF.out]; have := HF.out.2.2; have := HK.out; simp; omega)
        rw [MK.out, HBF.out] at hh
        unfold ClassDone at hh
        simp only [HE.out.1] at hh
        exact hh
      have KM : Hid (∀ W, Sep w (boxR (x3 + 1 + 1) (.cells #[.map (some (x3 + 1))] 72) :: mapF (x3 + 1) (mapL H.last k) :: boxR x3 (.cells #[.int .i64 4, .int .i64 (H.last + 1), .string ⟨#[]⟩] 31) :: boxR (b + 1) (.cells #[.int .i64 0, .int .i64 0, .string ⟨#[]⟩] 31) :: boxR b (.cells #[.pointer (some ⟨h, 0, none⟩)] 28) :: heapR h (clsAt H (k + 1)) :: (RE ++ Gs)) W → ∃ W', (Instr.mapUpdate 72 (.map (some (x3 + 1))) (.string (nameF k)) (.agg #[.int .i64 4, .int .i64 (H.last + 2 + (k : Int)), .string ⟨#[]⟩])).run Tryd.prog W = .ok () W' ∧ Sep w (boxR (x3 + 1 + 1) (.cells #[.map (some (x3 + 1))] 72) :: mapF (x3 + 1) (mapL H.last (k + 1)) :: boxR x3 (.cells #[.int .i64 4, .int .i64 (H.last + 1), .string ⟨#[]⟩] 31) :: boxR (b + 1) (.cells #[.int .i64 0, .int .i64 0, .string ⟨#[]⟩] 31) :: boxR b (.cells #[.pointer (some ⟨h, 0, none⟩)] 28) :: heapR h (clsAt H (k + 1)) :: (RE ++ Gs)) W') := Lib.hid fun W T => by
        obtain ⟨W', h1, h2⟩ := T.mapPut 1 rfl (nameF k) (nameF_le k) (V.ref (H.last + 2 + (k : Int)) hnk)
        have e2 := mapL_put H.last HK.out
        rw [HE.out.2] at e2
        rw [e2] at h2
        exact ⟨W', h1, h2⟩
      gi_upto_region 11 with fail
      have T0 : Sep w (boxR (x3 + 1 + 1) (.cells #[.map (some (x3 + 1))] 72) :: mapF (x3 + 1) (mapL H.last k) :: boxR x3 (.cells #[.int .i64 4, .int .i64 (H.last + 1), .string ⟨#[]⟩] 31) :: boxR (b + 1) (.cells #[.int .i64 0, .int .i64 0, .string ⟨#[]⟩] 31) :: boxR b (.cells #[.pointer (some ⟨h, 0, none⟩)] 28) :: heapR h (clsAt H k) :: (RE ++ Gs)) _ := S6.out.drew
      refine wpIn_regionI (fun W => W.cell? ⟨x3 + 1 + 1, 0, none⟩ = some (.map (some (x3 + 1))) ∧ W.cell? ⟨b, 0, none⟩ = some (.pointer (some ⟨h, 0, none⟩)) ∧ W.cell? ⟨x3, 0, none⟩ = some (.int .i64 4) ∧ W.cell? ⟨x3, 1, none⟩ = some (.int .i64 (H.last + 1)) ∧ W.cell? ⟨x3, 2, none⟩ = some (.string ⟨#[]⟩)) (by kernel_rfl) ?_
      refine wpAnyI_take 0 (v := _) (by kernel_rfl) (by simp only [List.getElem?_toArray, List.getElem?_cons_succ, List.getElem?_cons_zero]; rfl) (by kernel_rfl) (by kernel_rfl) (by kernel_rfl) (by exact fun _ _ _ h => h) (.inl ⟨by rfl, by (intro w hSw; obtain ⟨s1, s2, s3, s4, s5⟩ := hSw; (go_simp; try rfl))⟩) (fun _ => rfl) (KS.out _ _ _ T0) ?_; simp only [Act.put, List.setIfInBounds_toArray, List.set_cons_zero, List.set_cons_succ]
      refine wpAnyI_take 1 (v := _) (by kernel_rfl) (by simp only [List.getElem?_toArray, List.getElem?_cons_succ, List.getElem?_cons_zero]; rfl) (by kernel_rfl) (by kernel_rfl) (by kernel_rfl) (by exact fun _ _ _ h => h) (.inl ⟨by rfl, by (intro w hSw; obtain ⟨s1, s2, s3, s4, s5⟩ := hSw; (go_simp; try rfl))⟩) (fun _ => rfl) (KS.out _ _ _ T0) ?_; simp only [Act.put, List.setIfInBounds_toArray, List.set_cons_zero, List.set_cons_succ]
      refine wpAnyI_take 2 (v := _) (by kernel_rfl) (by simp only [List.getElem?_toArray, List.getElem?_cons_succ, List.getElem?_cons_zero]; rfl) (by kernel_rfl) (by kernel_rfl) (by kernel_rfl) (by exact fun _ _ _ h => h) (.inl ⟨by rfl, by (intro w hSw; obtain ⟨s1, s2, s3, s4, s5⟩ := hSw; (go_simp; try rfl))⟩) (fun _ => rfl) (KS.out _ _ _ T0) ?_; simp only [Act.put, List.setIfInBounds_toArray, List.set_cons_zero, List.set_cons_succ]
      refine wpAnyI_take 3 (v := _) (by kernel_rfl) (by simp only [List.getElem?_toArray, List.getElem?_cons_succ, List.getElem?_cons_zero]; rfl) (by kernel_rfl) (by kernel_rfl) (by kernel_rfl) (by exact fun _ _ _ h => h) (.inl ⟨by rfl, by (intro w hSw; obtain ⟨s1, s2, s3, s4, s5⟩ := hSw; (go_simp; try rfl))⟩) (fun _ => rfl) (KS.out _ _ _ T0) ?_; simp only [Act.put, List.setIfInBounds_toArray, List.set_cons_zero, List.set_cons_succ]
      refine wpAnyI_take 4 (v := _) (by kernel_rfl) (by simp only [List.getElem?_toArray, List.getElem?_cons_succ, List.getElem?_cons_zero]; rfl) (by kernel_rfl) (by kernel_rfl) (by kernel_rfl) (by exact fun _ _ _ h => h) (.inl ⟨by rfl, by (intro w hSw; obtain ⟨s1, s2, s3, s4, s5⟩ := hSw; (go_simp; try rfl))⟩) (fun _ => rfl) (KS.out _ _ _ T0) ?_; simp only [Act.put, List.setIfInBounds_toArray, List.set_cons_zero, List.set_cons_succ]
      refine wpAnyI_take 5 (v := _) (by kernel_rfl) (by simp only [List.getElem?_toArray, List.getElem?_cons_succ, List.getElem?_cons_zero]; rfl) (by kernel_rfl) (by kernel_rfl) (by kernel_rfl) (by exact fun _ _ _ h => h) (.inl ⟨by rfl, by (intro w hSw; obtain ⟨s1, s2, s3, s4, s5⟩ := hSw; (go_simp; try rfl))⟩) (fun _ => rfl) (KS.out _ _ _ T0) ?_; simp only [Act.put, List.setIfInBounds_toArray, List.set_cons_zero, List.set_cons_succ]
      refine wpAnyI_all (rs := [6]) (by kernel_rfl) (by simp) ?_
      intro i hi
      simp only [List.mem_cons, List.not_mem_nil, or_false] at hi
      rcases hi with rfl
      · refine wpI_step (by simp only [List.getElem?_toArray, List.getElem?_cons_succ, List.getElem?_cons_zero]; rfl) (fun K hK => ?_)
        go_simp
        gi_wp2_with (refine ⟨trivial, (callsIn_wide.2 (KC.out _ T0)).mono ?_⟩; rintro e w1 ⟨rfl, T1⟩)
        refine hK _ _ (KS.out _ _ _ T1) (fun _ => ?_); clear hK K
        refine wpAnyI_take 7 (v := _) (by kernel_rfl) (by simp only [List.getElem?_toArray, List.getElem?_cons_succ, List.getElem?_cons_zero]; rfl) (by kernel_rfl) (by kernel_rfl) (by kernel_rfl) (by exact fun _ _ _ h => h) (.inl ⟨by rfl, by (intro w hSw; obtain ⟨s1, s2, s3, s4, s5⟩ := hSw; (go_simp; try rfl))⟩) (fun _ => rfl) (KS.out _ _ _ T1) ?_; simp only [Act.put, List.setIfInBounds_toArray, List.set_cons_zero, List.set_cons_succ]
        refine wpAnyI_take 8 (v := _) (by kernel_rfl) (by simp only [List.getElem?_toArray, List.getElem?_cons_succ, List.getElem?_cons_zero]; rfl) (by kernel_rfl) (by kernel_rfl) (by kernel_rfl) (by exact fun _ _ _ h => h) (.inl ⟨by rfl, by (intro w hSw; obtain ⟨s1, s2, s3, s4, s5⟩ := hSw; (go_simp; try rfl))⟩) (fun _ => rfl) (KS.out _ _ _ T1) ?_; simp only [Act.put, List.setIfInBounds_toArray, List.set_cons_zero, List.set_cons_succ]
        refine wpAnyI_take 9 (v := _) (by kernel_rfl) (by simp only [List.getElem?_toArray, List.getElem?_cons_succ, List.getElem?_cons_zero]; rfl) (by kernel_rfl) (by kernel_rfl) (by kernel_rfl) (by exact fun _ _ _ h => h) (.inl ⟨by rfl, by (intro w hSw; obtain ⟨s1, s2, s3, s4, s5⟩ := hSw; (go_simp; try rfl))⟩) (fun _ => rfl) (KS.out _ _ _ T1) ?_; simp only [Act.put, List.setIfInBounds_toArray, List.set_cons_zero, List.set_cons_succ]
        refine wpAnyI_all (rs := [10]) (by kernel_rfl) (by simp) ?_
        intro i hi
        simp only [List.mem_cons, List.not_mem_nil, or_false] at hi
        rcases hi with rfl
        · refine wpI_step (by simp only [List.getElem?_toArray, List.getElem?_cons_succ, List.getElem?_cons_zero]; rfl) (fun K hK => ?_)
          obtain ⟨w2, hrun2, T2⟩ := KM.out _ T1; go_simp; clear hrun2
          refine hK _ _ (KS.out _ _ _ T2) (fun _ => ?_); clear hK K
          refine wpAnyI_done (by kernel_rfl) ?_ _
          have S9 := Lib.hid T2; clear KS KC KM
          gi_wp2
          exact ⟨_, rfl, S9.out⟩
    | some j =>
      have hjk := par_lt k HK.out j hp
      have hnj : okI (H.last + 2 + (j : Int)) := okI_of ⟨by have := HL.out; omega, by have := HL.out; have := HK.out; omega⟩
      have HBF : Hid (basesF H.last k = [V.ref (H.last + 2 + (j : Int)) hnj]) := Lib.hid (by unfold basesF; rw [hp]; simp only [refN_ok hnj])
      have hb0 : baseF k = nameF j := by unfold baseF; rw [hp]
      have hne : ((baseF k).toList == []) = false := by
        rw [beq_eq_false_iff_ne]
        intro e
        have h1 := (base_size k HK.out).1 (by
          have h2 : (baseF k).toList.length = 0 := by rw [e]; rfl
          rw [ByteArray.toList_eq] at h2
          rw [Array.length_toList] at h2
          exact h2)
        rw [h1] at hp; cases hp
      have hlook := S5.mapLook 1 rfl (baseF k) (by rw [hb0]; exact nameF_le j)
      rw [hb0, mapL_get H.last hjk (by have := HK.out; omega), Option.getD_some, refN_ok hnj, ← hb0] at hlook
      have hlook2 : (Instr.lookup 72 (.map (some (x3 + 1))) (.string (baseF k)) false).run Tryd.prog W3 = .ok (.agg #[.int .i64 4, .int .i64 (H.last + 2 + (j : Int)), .string ⟨#[]⟩]) W3 := hlook
      have c4 := cellAt (S5.box (b := x3 + 1 + 1) 0 rfl) 0 (v := .map (some (x3 + 1))) rfl
      obtain ⟨q, hq⟩ : ∃ gx_, (W3.heap.size) = gx_ := ⟨_, rfl⟩
      have S6 := S5.alloc (.cells #[.int .i64 4, .int .i64 (H.last + 2 + (j : Int)), .string ⟨#[]⟩] 31)
      rw [hq] at S6
      replace S6 := Lib.hid S6; clear S5 hp hjk hlook hb0
      have KS : Hid (∀ W (X : HeapM) (Y : List (ByteArray × V)), Sep w (boxR q (.cells #[.int .i64 4, .int .i64 (H.last + 2 + (j : Int)), .string ⟨#[]⟩] 31) :: boxR (x3 + 1 + 1) (.cells #[.map (some (x3 + 1))] 72) :: mapF (x3 + 1) (Y) :: boxR x3 (.cells #[.int .i64 4, .int .i64 (H.last + 1), .string ⟨#[]⟩] 31) :: boxR (b + 1) (.cells #[.int .i64 0, .int .i64 0, .string ⟨#[]⟩] 31) :: boxR b (.cells #[.pointer (some ⟨h, 0, none⟩)] 28) :: heapR h (X) :: (RE ++ Gs)) W → W.cell? ⟨x3 + 1 + 1, 0, none⟩ = some (.map (some (x3 + 1))) ∧ W.cell? ⟨b, 0, none⟩ = some (.pointer (some ⟨h, 0, none⟩)) ∧ W.cell? ⟨x3, 0, none⟩ = some (.int .i64 4) ∧ W.cell? ⟨x3, 1, none⟩ = some (.int .i64 (H.last + 1)) ∧ W.cell? ⟨x3, 2, none⟩ = some (.string ⟨#[]⟩)) := Lib.hid fun W X Y T =>
        ⟨cellAt (T.box (b := x3 + 1 + 1) 1 rfl) 0 rfl, cellAt (T.box (b := b) 5 rfl) 0 rfl, cellAt (T.box (b := x3) 3 rfl) 0 rfl, cellAt (T.box (b := x3) 3 rfl) 1 rfl, cellAt (T.box (b := x3) 3 rfl) 2 rfl⟩
      have KC : Hid (∀ W, Sep w (boxR q (.cells #[.int .i64 4, .int .i64 (H.last + 2 + (j : Int)), .string ⟨#[]⟩] 31) :: boxR (x3 + 1 + 1) (.cells #[.map (some (x3 + 1))] 72) :: mapF (x3 + 1) (mapL H.last k) :: boxR x3 (.cells #[.int .i64 4, .int .i64 (H.last + 1), .string ⟨#[]⟩] 31) :: boxR (b + 1) (.cells #[.int .i64 0, .int .i64 0, .string ⟨#[]⟩] 31) :: boxR b (.cells #[.pointer (some ⟨h, 0, none⟩)] 28) :: heapR h (clsAt H k) :: (RE ++ Gs)) W → Calls Tryd.prog 25 #[.pointer (some ⟨h, 0, none⟩), .string (nameF k), .slice (some ⟨q, 0, none⟩) 1 1, .agg #[.int .i64 4, .int .i64 (H.last + 1), .string ⟨#[]⟩]] W fun e W' => e = .returned (.tuple #[.agg #[.int .i64 4, .int .i64 (H.last + 2 + (k : Int)), .string ⟨#[]⟩], excZ]) ∧ Sep w (boxR q (.cells #[.int .i64 4, .int .i64 (H.last + 2 + (j : Int)), .string ⟨#[]⟩] 31) :: boxR (x3 + 1 + 1) (.cells #[.map (some (x3 + 1))] 72) :: mapF (x3 + 1) (mapL H.last k) :: boxR x3 (.cells #[.int .i64 4, .int .i64 (H.last + 1), .string ⟨#[]⟩] 31) :: boxR (b + 1) (.cells #[.int .i64 0, .int .i64 0, .string ⟨#[]⟩] 31) :: boxR b (.cells #[.pointer (some ⟨h, 0, none⟩)] 28) :: heapR h (clsAt H (k + 1)) :: (RE ++ Gs)) W') := Lib.hid fun W T => by
        have hh := class_ok T 6 rfl BK.out.fit (nameF k) (nameF_le k) (some ⟨q, 0, none⟩) 1 (basesF H.last k) (fun W' T' => by rw [HBF.out]; exact seesV_oneF (V.ref (H.last + 2 + (j : Int)) hnj) (T'.box (b := q) 0 rfl)) (V.ref (H.last + 1) hn1) (by rw [HBF.out]; have := HF.out.2.2; have := HK.out; simp; omega)
        rw [MK.out, HBF.out] at hh
        unfold ClassDone at hh
        simp only [HE.out.1] at hh
        exact hh
      have KM : Hid (∀ W, Sep w (boxR q (.cells #[.int .i64 4, .int .i64 (H.last + 2 + (j : Int)), .string ⟨#[]⟩] 31) :: boxR (x3 + 1 + 1) (.cells #[.map (some (x3 + 1))] 72) :: mapF (x3 + 1) (mapL H.last k) :: boxR x3 (.cells #[.int .i64 4, .int .i64 (H.last + 1), .string ⟨#[]⟩] 31) :: boxR (b + 1) (.cells #[.int .i64 0, .int .i64 0, .string ⟨#[]⟩] 31) :: boxR b (.cells #[.pointer (some ⟨h, 0, none⟩)] 28) :: heapR h (clsAt H (k + 1)) :: (RE ++ Gs)) W → ∃ W', (Instr.mapUpdate 72 (.map (some (x3 + 1))) (.string (nameF k)) (.agg #[.int .i64 4, .int .i64 (H.last + 2 + (k : Int)), .string ⟨#[]⟩])).run Tryd.prog W = .ok () W' ∧ Sep w (boxR q (.cells #[.int .i64 4, .int .i64 (H.last + 2 + (j : Int)), .string ⟨#[]⟩] 31) :: boxR (x3 + 1 + 1) (.cells #[.map (some (x3 + 1))] 72) :: mapF (x3 + 1) (mapL H.last (k + 1)) :: boxR x3 (.cells #[.int .i64 4, .int .i64 (H.last + 1), .string ⟨#[]⟩] 31) :: boxR (b + 1) (.cells #[.int .i64 0, .int .i64 0, .string ⟨#[]⟩] 31) :: boxR b (.cells #[.pointer (some ⟨h, 0, none⟩)] 28) :: heapR h (clsAt H (k + 1)) :: (RE ++ Gs)) W') := Lib.hid fun W T => by
        obtain ⟨W', h1, h2⟩ := T.mapPut 2 rfl (nameF k) (nameF_le k) (V.ref (H.last + 2 + (k : Int)) hnk)
        have e2 := mapL_put H.last HK.out
        rw [HE.out.2] at e2
        rw [e2] at h2
        exact ⟨W', h1, h2⟩
      gi_upto_region 11 with fail
      have T0 : Sep w (boxR q (.cells #[.int .i64 4, .int .i64 (H.last + 2 + (j : Int)), .string ⟨#[]⟩] 31) :: boxR (x3 + 1 + 1) (.cells #[.map (some (x3 + 1))] 72) :: mapF (x3 + 1) (mapL H.last k) :: boxR x3 (.cells #[.int .i64 4, .int .i64 (H.last + 1), .string ⟨#[]⟩] 31) :: boxR (b + 1) (.cells #[.int .i64 0, .int .i64 0, .string ⟨#[]⟩] 31) :: boxR b (.cells #[.pointer (some ⟨h, 0, none⟩)] 28) :: heapR h (clsAt H k) :: (RE ++ Gs)) _ := S6.out.drew
      refine wpIn_regionI (fun W => W.cell? ⟨x3 + 1 + 1, 0, none⟩ = some (.map (some (x3 + 1))) ∧ W.cell? ⟨b, 0, none⟩ = some (.pointer (some ⟨h, 0, none⟩)) ∧ W.cell? ⟨x3, 0, none⟩ = some (.int .i64 4) ∧ W.cell? ⟨x3, 1, none⟩ = some (.int .i64 (H.last + 1)) ∧ W.cell? ⟨x3, 2, none⟩ = some (.string ⟨#[]⟩)) (by kernel_rfl) ?_
      refine wpAnyI_take 0 (v := _) (by kernel_rfl) (by simp only [List.getElem?_toArray, List.getElem?_cons_succ, List.getElem?_cons_zero]; rfl) (by kernel_rfl) (by kernel_rfl) (by kernel_rfl) (by exact fun _ _ _ h => h) (.inl ⟨by rfl, by (intro w hSw; obtain ⟨s1, s2, s3, s4, s5⟩ := hSw; (go_simp; try rfl))⟩) (fun _ => rfl) (KS.out _ _ _ T0) ?_; simp only [Act.put, List.setIfInBounds_toArray, List.set_cons_zero, List.set_cons_succ]
      refine wpAnyI_take 1 (v := _) (by kernel_rfl) (by simp only [List.getElem?_toArray, List.getElem?_cons_succ, List.getElem?_cons_zero]; rfl) (by kernel_rfl) (by kernel_rfl) (by kernel_rfl) (by exact fun _ _ _ h => h) (.inl ⟨by rfl, by (intro w hSw; obtain ⟨s1, s2, s3, s4, s5⟩ := hSw; (go_simp; try rfl))⟩) (fun _ => rfl) (KS.out _ _ _ T0) ?_; simp only [Act.put, List.setIfInBounds_toArray, List.set_cons_zero, List.set_cons_succ]
      refine wpAnyI_take 2 (v := _) (by kernel_rfl) (by simp only [List.getElem?_toArray, List.getElem?_cons_succ, List.getElem?_cons_zero]; rfl) (by kernel_rfl) (by kernel_rfl) (by kernel_rfl) (by exact fun _ _ _ h => h) (.inl ⟨by rfl, by (intro w hSw; obtain ⟨s1, s2, s3, s4, s5⟩ := hSw; (go_simp; try rfl))⟩) (fun _ => rfl) (KS.out _ _ _ T0) ?_; simp only [Act.put, List.setIfInBounds_toArray, List.set_cons_zero, List.set_cons_succ]
      refine wpAnyI_take 3 (v := _) (by kernel_rfl) (by simp only [List.getElem?_toArray, List.getElem?_cons_succ, List.getElem?_cons_zero]; rfl) (by kernel_rfl) (by kernel_rfl) (by kernel_rfl) (by exact fun _ _ _ h => h) (.inl ⟨by rfl, by (intro w hSw; obtain ⟨s1, s2, s3, s4, s5⟩ := hSw; (go_simp; try rfl))⟩) (fun _ => rfl) (KS.out _ _ _ T0) ?_; simp only [Act.put, List.setIfInBounds_toArray, List.set_cons_zero, List.set_cons_succ]
      refine wpAnyI_take 4 (v := _) (by kernel_rfl) (by simp only [List.getElem?_toArray, List.getElem?_cons_succ, List.getElem?_cons_zero]; rfl) (by kernel_rfl) (by kernel_rfl) (by kernel_rfl) (by exact fun _ _ _ h => h) (.inl ⟨by rfl, by (intro w hSw; obtain ⟨s1, s2, s3, s4, s5⟩ := hSw; (go_simp; try rfl))⟩) (fun _ => rfl) (KS.out _ _ _ T0) ?_; simp only [Act.put, List.setIfInBounds_toArray, List.set_cons_zero, List.set_cons_succ]
      refine wpAnyI_take 5 (v := _) (by kernel_rfl) (by simp only [List.getElem?_toArray, List.getElem?_cons_succ, List.getElem?_cons_zero]; rfl) (by kernel_rfl) (by kernel_rfl) (by kernel_rfl) (by exact fun _ _ _ h => h) (.inl ⟨by rfl, by (intro w hSw; obtain ⟨s1, s2, s3, s4, s5⟩ := hSw; (go_simp; try rfl))⟩) (fun _ => rfl) (KS.out _ _ _ T0) ?_; simp only [Act.put, List.setIfInBounds_toArray, List.set_cons_zero, List.set_cons_succ]
      refine wpAnyI_all (rs := [6]) (by kernel_rfl) (by simp) ?_
      intro i hi
      simp only [List.mem_cons, List.not_mem_nil, or_false] at hi
      rcases hi with rfl
      · refine wpI_step (by simp only [List.getElem?_toArray, List.getElem?_cons_succ, List.getElem?_cons_zero]; rfl) (fun K hK => ?_)
        go_simp
        gi_wp2_with (refine ⟨trivial, (callsIn_wide.2 (KC.out _ T0)).mono ?_⟩; rintro e w1 ⟨rfl, T1⟩)
        refine hK _ _ (KS.out _ _ _ T1) (fun _ => ?_); clear hK K
        refine wpAnyI_take 7 (v := _) (by kernel_rfl) (by simp only [List.getElem?_toArray, List.getElem?_cons_succ, List.getElem?_cons_zero]; rfl) (by kernel_rfl) (by kernel_rfl) (by kernel_rfl) (by exact fun _ _ _ h => h) (.inl ⟨by rfl, by (intro w hSw; obtain ⟨s1, s2, s3, s4, s5⟩ := hSw; (go_simp; try rfl))⟩) (fun _ => rfl) (KS.out _ _ _ T1) ?_; simp only [Act.put, List.setIfInBounds_toArray, List.set_cons_zero, List.set_cons_succ]
        refine wpAnyI_take 8 (v := _) (by kernel_rfl) (by simp only [List.getElem?_toArray, List.getElem?_cons_succ, List.getElem?_cons_zero]; rfl) (by kernel_rfl) (by kernel_rfl) (by kernel_rfl) (by exact fun _ _ _ h => h) (.inl ⟨by rfl, by (intro w hSw; obtain ⟨s1, s2, s3, s4, s5⟩ := hSw; (go_simp; try rfl))⟩) (fun _ => rfl) (KS.out _ _ _ T1) ?_; simp only [Act.put, List.setIfInBounds_toArray, List.set_cons_zero, List.set_cons_succ]
        refine wpAnyI_take 9 (v := _) (by kernel_rfl) (by simp only [List.getElem?_toArray, List.getElem?_cons_succ, List.getElem?_cons_zero]; rfl) (by kernel_rfl) (by kernel_rfl) (by kernel_rfl) (by exact fun _ _ _ h => h) (.inl ⟨by rfl, by (intro w hSw; obtain ⟨s1, s2, s3, s4, s5⟩ := hSw; (go_simp; try rfl))⟩) (fun _ => rfl) (KS.out _ _ _ T1) ?_; simp only [Act.put, List.setIfInBounds_toArray, List.set_cons_zero, List.set_cons_succ]
        refine wpAnyI_all (rs := [10]) (by kernel_rfl) (by simp) ?_
        intro i hi
        simp only [List.mem_cons, List.not_mem_nil, or_false] at hi
        rcases hi with rfl
        · refine wpI_step (by simp only [List.getElem?_toArray, List.getElem?_cons_succ, List.getElem?_cons_zero]; rfl) (fun K hK => ?_)
          obtain ⟨w2, hrun2, T2⟩ := KM.out _ T1; go_simp; clear hrun2
          refine hK _ _ (KS.out _ _ _ T2) (fun _ => ?_); clear hK K
          refine wpAnyI_done (by kernel_rfl) ?_ _
          have S9 := Lib.hid T2; clear KS KC KM
          gi_wp2
          exact ⟨_, rfl, (S9.out).tail⟩
  case done =>
    rintro _ W3 rfl S3
    simp only [List.append_nil] at S3
    clear S4 IT
    have B17 := Lib.hid (HB.out 17 (Nat.le_refl _))
    have d0 := cellAt (S3.box (b := b) 5 rfl) 0 (v := .pointer (some ⟨h, 0, none⟩)) rfl
    have hl19 : (clsAt H 17).last + 1 = H.last + 19 := by rw [clsAt_last]; omega
    have CM := S3.make 6 rfl B17.out.fit.G (by have := HF.out.2.2; omega) modN (.slice none 0 0) (show SeesV _ (.slice none 0 0) [] from ⟨none, 0, rfl, by simp, by simp, .inl rfl⟩) (by simp [modN]) rfl (by simp [modN]) (by simp [modN])
    rw [hl19, ← bootAt_zero] at CM
    replace CM := Lib.hid CM
    clear S3 hl19
    gi_wp2_with fail
    refine ⟨trivial, (callsIn_wide.2 CM.out).mono ?_⟩
    rintro e w4 ⟨rfl, S5⟩
    clear CM d0
    obtain ⟨x8, hx8⟩ : ∃ gx_, (w4.heap.size) = gx_ := ⟨_, rfl⟩
    have S6 := S5.alloc (.cells #[.int .i64 4, .int .i64 (H.last + 19), .string ⟨#[]⟩] 31)
    rw [hx8] at S6
    have S7 : Hid (Sep w (boxR x8 (.cells #[.int .i64 4, .int .i64 (H.last + 19), .string ⟨#[]⟩] 31) :: boxR c1 (.deferred (some [])) :: boxR (x3 + 1 + 1) (.cells #[.map (some (x3 + 1))] 72) :: mapF (x3 + 1) (mapL H.last 17) :: boxR x3 (.cells #[.int .i64 4, .int .i64 (H.last + 1), .string ⟨#[]⟩] 31) :: boxR (b + 1) (.cells #[.int .i64 0, .int .i64 0, .string ⟨#[]⟩] 31) :: boxR b (.cells #[.pointer (some ⟨h, 0, none⟩)] 28) :: heapR h (bootAt H 0) :: RE) _) := Lib.hid S6
    clear S5 S6
    gi_wp2_with fail
    try simp only [hx8]
    obtain ⟨W5, hW5⟩ : ∃ gx_, (w4.alloc (.cells #[.int .i64 4, .int .i64 (H.last + 19), .string ⟨#[]⟩] 31)) = gx_ := ⟨_, rfl⟩
    rw [hW5] at S7
    rw [hW5]
    clear hW5 hx8
    refine ⟨trivial, (callsIn_wide.2 (all_ok W5)).mono ?_⟩
    rintro e W6 ⟨rfl, rfl⟩
    obtain ⟨c2, hB2⟩ : ∃ gx_, (W6.heap.size) = gx_ := ⟨_, rfl⟩
    have IT := Lib.hid (all_iter HGL.out)
    gi_wp2_with fail
    refine range_sep (w := w) (B := c2) hB2 (hg := rfl) enters_allF (fun _ => rfl)
      (fun k R => R = boxR x8 (.cells #[.int .i64 4, .int .i64 (H.last + 19), .string ⟨#[]⟩] 31) :: boxR c1 (.deferred (some [])) :: boxR (x3 + 1 + 1) (.cells #[.map (some (x3 + 1))] 72) :: mapF (x3 + 1) (mapL H.last 17) :: boxR x3 (.cells #[.int .i64 4, .int .i64 (H.last + 1), .string ⟨#[]⟩] 31) :: boxR (b + 1) (.cells #[.int .i64 0, .int .i64 0, .string ⟨#[]⟩] 31) :: boxR b (.cells #[.pointer (some ⟨h, 0, none⟩)] 28) :: heapR h (bootAt H k) :: RE)
      (fun _ _ _ => False) (n := 17) (encs := allE) IT.out rfl (by rw [List.append_nil]; exact S7.out)
      (fun k s' => { tmps := #[.pointer (some ⟨h, 0, none⟩), .pointer (some ⟨b, 0, none⟩), .pointer (some ⟨b + 1, 0, none⟩), .pointer (some ⟨x3, 0, none⟩), .pointer (some ⟨x3 + 1 + 1, 0, none⟩), undef, undef, undef, .pointer (some ⟨x8, 0, none⟩), .string (nameF k), .pointer (some ⟨h, 0, none⟩), .bool false, undef, .pointer (some ⟨h, 0, none⟩), .agg #[.int .i64 4, .int .i64 (H.last + 1), .string ⟨#[]⟩], .map (some (x3 + 1)), .func (.func 57) #[] #[], undef, undef, undef, undef, undef, undef, undef, undef, undef, undef, undef, undef, undef, undef, undef, undef, undef, undef, .pointer (some ⟨h, 0, none⟩), .agg #[.int .i64 4, .int .i64 (H.last + 19), .string ⟨#[]⟩], .func (.func 57) #[] #[], .string (nameF k), .string (baseF k), undef, undef, undef, undef, undef, undef, undef, undef, undef, undef, undef, undef, undef, undef], defers := [] })
      (fun k W => W) (fun k s => []) (fun k W Rs _ S => S) ?assign2 ?body2 ?done2 ?stop2
    case assign2 =>
      intro l k W K hk hK
      simp only [allE]
      gi_wp2
      exact hK
    case body2 =>
      rintro l k q _ Gs W3 hk rfl S3
      have S5 : Sep w (boxR x8 (.cells #[.int .i64 4, .int .i64 (H.last + 19), .string ⟨#[]⟩] 31) :: boxR c1 (.deferred (some [])) :: boxR (x3 + 1 + 1) (.cells #[.map (some (x3 + 1))] 72) :: mapF (x3 + 1) (mapL H.last 17) :: boxR x3 (.cells #[.int .i64 4, .int .i64 (H.last + 1), .string ⟨#[]⟩] 31) :: boxR (b + 1) (.cells #[.int .i64 0, .int .i64 0, .string ⟨#[]⟩] 31) :: boxR b (.cells #[.pointer (some ⟨h, 0, none⟩)] 28) :: heapR h (bootAt H k) :: (RE ++ Gs)) W3 := S3
      have HK := Lib.hid hk
      have hn19 : okI (H.last + 19) := okI_of ⟨by have := HL.out; omega, by have := HL.out; omega⟩
      have hnk : okI (H.last + 2 + (k : Int)) := okI_of ⟨by have := HL.out; omega, by have := HL.out; omega⟩
      have hput := B17.out.put hk hn19
      rw [refN_ok hnk] at hput
      have HPT := Lib.hid hput
      have S6 := Lib.hid S5; clear S3 S5 S7 IT hB2 hB hk hput
      have KS : Hid (∀ W (X : HeapM), Sep w (boxR x8 (.cells #[.int .i64 4, .int .i64 (H.last + 19), .string ⟨#[]⟩] 31) :: boxR c1 (.deferred (some [])) :: boxR (x3 + 1 + 1) (.cells #[.map (some (x3 + 1))] 72) :: mapF (x3 + 1) (mapL H.last 17) :: boxR x3 (.cells #[.int .i64 4, .int .i64 (H.last + 1), .string ⟨#[]⟩] 31) :: boxR (b + 1) (.cells #[.int .i64 0, .int .i64 0, .string ⟨#[]⟩] 31) :: boxR b (.cells #[.pointer (some ⟨h, 0, none⟩)] 28) :: heapR h (X) :: (RE ++ Gs)) W → W.cell? ⟨x3 + 1 + 1, 0, none⟩ = some (.map (some (x3 + 1))) ∧ W.cell? ⟨b, 0, none⟩ = some (.pointer (some ⟨h, 0, none⟩)) ∧ W.cell? ⟨x8, 0, none⟩ = some (.int .i64 4) ∧ W.cell? ⟨x8, 1, none⟩ = some (.int .i64 (H.last + 19)) ∧ W.cell? ⟨x8, 2, none⟩ = some (.string ⟨#[]⟩) ∧ (Instr.lookup 72 (.map (some (x3 + 1))) (.string (nameF k)) false).run Tryd.prog W = .ok (.agg #[.int .i64 4, .int .i64 (H.last + 2 + (k : Int)), .string ⟨#[]⟩]) W) := Lib.hid fun W X T => by
        have hl := T.mapLook 3 rfl (nameF k) (nameF_le k)
        rw [mapL_get H.last HK.out (Nat.le_refl _), Option.getD_some, refN_ok hnk] at hl
        exact ⟨cellAt (T.box (b := x3 + 1 + 1) 2 rfl) 0 rfl, cellAt (T.box (b := b) 6 rfl) 0 rfl, cellAt (T.box (b := x8) 0 rfl) 0 rfl, cellAt (T.box (b := x8) 0 rfl) 1 rfl, cellAt (T.box (b := x8) 0 rfl) 2 rfl, hl⟩
      have KP : Hid (∀ W, Sep w (boxR x8 (.cells #[.int .i64 4, .int .i64 (H.last + 19), .string ⟨#[]⟩] 31) :: boxR c1 (.deferred (some [])) :: boxR (x3 + 1 + 1) (.cells #[.map (some (x3 + 1))] 72) :: mapF (x3 + 1) (mapL H.last 17) :: boxR x3 (.cells #[.int .i64 4, .int .i64 (H.last + 1), .string ⟨#[]⟩] 31) :: boxR (b + 1) (.cells #[.int .i64 0, .int .i64 0, .string ⟨#[]⟩] 31) :: boxR b (.cells #[.pointer (some ⟨h, 0, none⟩)] 28) :: heapR h (bootAt H k) :: (RE ++ Gs)) W → Calls Tryd.prog 37 #[.pointer (some ⟨h, 0, none⟩), .agg #[.int .i64 4, .int .i64 (H.last + 19), .string ⟨#[]⟩], .agg #[.int .i64 3, .int .i64 0, .string (nameF k)], .agg #[.int .i64 4, .int .i64 (H.last + 2 + (k : Int)), .string ⟨#[]⟩]] W fun e W' => (∃ b, e = .returned (.bool b)) ∧ Sep w (boxR x8 (.cells #[.int .i64 4, .int .i64 (H.last + 19), .string ⟨#[]⟩] 31) :: boxR c1 (.deferred (some [])) :: boxR (x3 + 1 + 1) (.cells #[.map (some (x3 + 1))] 72) :: mapF (x3 + 1) (mapL H.last 17) :: boxR x3 (.cells #[.int .i64 4, .int .i64 (H.last + 1), .string ⟨#[]⟩] 31) :: boxR (b + 1) (.cells #[.int .i64 0, .int .i64 0, .string ⟨#[]⟩] 31) :: boxR b (.cells #[.pointer (some ⟨h, 0, none⟩)] 28) :: heapR h (bootAt H (k + 1)) :: (RE ++ Gs)) W') := Lib.hid fun W T => by
        have hh := T.put 7 rfl (V.ref (H.last + 19) hn19) (keyF k) (V.ref (H.last + 2 + (k : Int)) hnk)
        rw [HPT.out] at hh
        exact hh.mono fun e W' ⟨e1, e2⟩ => ⟨⟨_, e1⟩, e2⟩
      gi_upto_region 15 with fail
      have T0 : Sep w (boxR x8 (.cells #[.int .i64 4, .int .i64 (H.last + 19), .string ⟨#[]⟩] 31) :: boxR c1 (.deferred (some [])) :: boxR (x3 + 1 + 1) (.cells #[.map (some (x3 + 1))] 72) :: mapF (x3 + 1) (mapL H.last 17) :: boxR x3 (.cells #[.int .i64 4, .int .i64 (H.last + 1), .string ⟨#[]⟩] 31) :: boxR (b + 1) (.cells #[.int .i64 0, .int .i64 0, .string ⟨#[]⟩] 31) :: boxR b (.cells #[.pointer (some ⟨h, 0, none⟩)] 28) :: heapR h (bootAt H k) :: (RE ++ Gs)) _ := S6.out.drew
      refine wpIn_regionI (fun W => W.cell? ⟨x3 + 1 + 1, 0, none⟩ = some (.map (some (x3 + 1))) ∧ W.cell? ⟨b, 0, none⟩ = some (.pointer (some ⟨h, 0, none⟩)) ∧ W.cell? ⟨x8, 0, none⟩ = some (.int .i64 4) ∧ W.cell? ⟨x8, 1, none⟩ = some (.int .i64 (H.last + 19)) ∧ W.cell? ⟨x8, 2, none⟩ = some (.string ⟨#[]⟩) ∧ (Instr.lookup 72 (.map (some (x3 + 1))) (.string (nameF k)) false).run Tryd.prog W = .ok (.agg #[.int .i64 4, .int .i64 (H.last + 2 + (k : Int)), .string ⟨#[]⟩]) W) (by kernel_rfl) ?_
      refine wpAnyI_take 0 (v := _) (by kernel_rfl) (by simp only [List.getElem?_toArray, List.getElem?_cons_succ, List.getElem?_cons_zero]; rfl) (by kernel_rfl) (by kernel_rfl) (by kernel_rfl) (by exact fun _ _ _ h => h) (.inl ⟨by rfl, by (intro w hSw; obtain ⟨s1, s2, s3, s4, s5, s6⟩ := hSw; (go_simp; try rfl))⟩) (fun _ => rfl) (KS.out _ _ T0) ?_; simp only [Act.put, List.setIfInBounds_toArray, List.set_cons_zero, List.set_cons_succ]
      refine wpAnyI_take 1 (v := _) (by kernel_rfl) (by simp only [List.getElem?_toArray, List.getElem?_cons_succ, List.getElem?_cons_zero]; rfl) (by kernel_rfl) (by kernel_rfl) (by kernel_rfl) (by exact fun _ _ _ h => h) (.inl ⟨by rfl, by (intro w hSw; obtain ⟨s1, s2, s3, s4, s5, s6⟩ := hSw; (go_simp; try rfl))⟩) (fun _ => rfl) (KS.out _ _ T0) ?_; simp only [Act.put, List.setIfInBounds_toArray, List.set_cons_zero, List.set_cons_succ]
      refine wpAnyI_take 2 (v := _) (by kernel_rfl) (by simp only [List.getElem?_toArray, List.getElem?_cons_succ, List.getElem?_cons_zero]; rfl) (by kernel_rfl) (by kernel_rfl) (by kernel_rfl) (by exact fun _ _ _ h => h) (.inl ⟨by rfl, by (intro w hSw; obtain ⟨s1, s2, s3, s4, s5, s6⟩ := hSw; (go_simp; try rfl))⟩) (fun _ => rfl) (KS.out _ _ T0) ?_; simp only [Act.put, List.setIfInBounds_toArray, List.set_cons_zero, List.set_cons_succ]
      refine wpAnyI_take 4 (v := _) (by kernel_rfl) (by simp only [List.getElem?_toArray, List.getElem?_cons_succ, List.getElem?_cons_zero]; rfl) (by kernel_rfl) (by kernel_rfl) (by kernel_rfl) (by exact fun _ _ _ h => h) (.inl ⟨by rfl, by (intro w hSw; obtain ⟨s1, s2, s3, s4, s5, s6⟩ := hSw; (go_simp; try rfl))⟩) (fun _ => rfl) (KS.out _ _ T0) ?_; simp only [Act.put, List.setIfInBounds_toArray, List.set_cons_zero, List.set_cons_succ]
      refine wpAnyI_take 5 (v := _) (by kernel_rfl) (by simp only [List.getElem?_toArray, List.getElem?_cons_succ, List.getElem?_cons_zero]; rfl) (by kernel_rfl) (by kernel_rfl) (by kernel_rfl) (by exact fun _ _ _ h => h) (.inl ⟨by rfl, by (intro w hSw; obtain ⟨s1, s2, s3, s4, s5, s6⟩ := hSw; (go_simp; try rfl))⟩) (fun _ => rfl) (KS.out _ _ T0) ?_; simp only [Act.put, List.setIfInBounds_toArray, List.set_cons_zero, List.set_cons_succ]
      refine wpAnyI_take 6 (v := _) (by kernel_rfl) (by simp only [List.getElem?_toArray, List.getElem?_cons_succ, List.getElem?_cons_zero]; rfl) (by kernel_rfl) (by kernel_rfl) (by kernel_rfl) (by exact fun _ _ _ h => h) (.inl ⟨by rfl, by (intro w hSw; obtain ⟨s1, s2, s3, s4, s5, s6⟩ := hSw; (go_simp; try rfl))⟩) (fun _ => rfl) (KS.out _ _ T0) ?_; simp only [Act.put, List.setIfInBounds_toArray, List.set_cons_zero, List.set_cons_succ]
      refine wpAnyI_all (rs := [3]) (by kernel_rfl) (by simp) ?_
      intro i hi
      simp only [List.mem_cons, List.not_mem_nil, or_false] at hi
      rcases hi with rfl
      · refine wpI_step (by simp only [List.getElem?_toArray, List.getElem?_cons_succ, List.getElem?_cons_zero]; rfl) (fun K hK => ?_)
        go_simp
        gi_wp2_with (refine ⟨trivial, (callsIn_wide.2 (ftext_ok _ _)).mono ?_⟩; rintro e w1 ⟨rfl, b1⟩); have T1 := Sep.later T0 b1
        refine hK _ _ (KS.out _ _ T1) (fun _ => ?_); clear hK K
        refine wpAnyI_all (rs := [7]) (by kernel_rfl) (by simp) ?_
        intro i hi
        simp only [List.mem_cons, List.not_mem_nil, or_false] at hi
        rcases hi with rfl
        · refine wpI_step (by simp only [List.getElem?_toArray, List.getElem?_cons_succ, List.getElem?_cons_zero]; rfl) (fun K hK => ?_)
          go_simp
          gi_wp2_with (refine ⟨trivial, (callsIn_wide.2 (KP.out _ T1)).mono ?_⟩; rintro e w2 ⟨⟨pb, rfl⟩, T2⟩)
          refine hK _ _ (KS.out _ _ T2) (fun _ => ?_); clear hK K
          refine wpAnyI_done (by kernel_rfl) ?_ _
          have S9 := Lib.hid T2; clear KS KP
          gi_wp2
          exact ⟨_, rfl, S9.out⟩
    case done2 =>
      rintro _ W7 rfl S3
      simp only [List.append_nil] at S3; clear S7 IT hB2 hB
      have S5 : Sep w (boxR c2 (.deferred (some [])) :: boxR x8 (.cells #[.int .i64 4, .int .i64 (H.last + 19), .string ⟨#[]⟩] 31) :: boxR c1 (.deferred (some [])) :: boxR (x3 + 1 + 1) (.cells #[.map (some (x3 + 1))] 72) :: mapF (x3 + 1) (mapL H.last 17) :: boxR x3 (.cells #[.int .i64 4, .int .i64 (H.last + 1), .string ⟨#[]⟩] 31) :: boxR (b + 1) (.cells #[.int .i64 0, .int .i64 0, .string ⟨#[]⟩] 31) :: boxR b (.cells #[.pointer (some ⟨h, 0, none⟩)] 28) :: heapR h (bootAt H 17) :: RE) W7 := S3
      have d0 := cellAt (S5.box (b := b) 7 rfl) 0 (v := .pointer (some ⟨h, 0, none⟩)) rfl
      have d1 := cellAt (S5.box (b := x3) 5 rfl) 1 (v := .int .i64 (H.last + 1)) rfl
      obtain ⟨q, hq⟩ : ∃ gx_, (W7.heap.size) = gx_ := ⟨_, rfl⟩
      have S6 := S5.alloc (.cells #[.int .i64 (H.last + 1)] 2)
      rw [hq] at S6
      have hn1 : okI (H.last + 1) := okI_of ⟨by have := HL.out; omega, by have := HL.out; omega⟩
      have F17 : (bootAt H 17).Good 500000 := by
        have h0 : (bootAt H 0).Good (N + 2 + 20 * 17 + 2) := by rw [bootAt_zero]; exact (B17.out.fit.addP modN (by decide) rfl (by simp [modN])).G
        have hn19 : okI (H.last + 19) := okI_of ⟨by have := HL.out; omega, by have := HL.out; omega⟩
        have hk : ∀ k, k ≤ 17 → (bootAt H k).Good (N + 2 + 20 * 17 + 2 + k) := fun k => by
          induction k with
          | zero => intro _; exact h0
          | succ k ih => intro hk; rw [← B17.out.put (by omega) hn19]; exact (ih (by omega)).put _ _ _
        exact (hk 17 (Nat.le_refl _)).more (by have := HF.out.2.2; omega)
      have CF := S6.free 9 rfl F17 (by omega) (.slice (some ⟨q, 0, none⟩) 1 1) [H.last + 1] ⟨_, 1, rfl, by simp, by simp [maxLen], .inr ⟨q, 0, rfl, fun i n hn => by
        match i, hn with
        | 0, hn => simp at hn; subst hn; exact cellAt (S6.box (b := q) 0 rfl) 0 rfl
        | i + 1, hn => simp at hn⟩⟩ (ArgS.box 0 (by omega) rfl) (by intro n hn; simp at hn; subst hn; exact hn1)
      rw [bootM_free HF.out.1] at CF
      replace CF := Lib.hid CF; clear S3 S5 S6 F17
      gi_wp2_with fail
      (try simp only [hq])
      refine ⟨trivial, (callsIn_wide.2 CF.out).mono ?_⟩
      rintro e w8 ⟨rfl, S8⟩; clear CF d0 d1 hq
      have S9 : Sep w (boxR q (.cells #[.int .i64 (H.last + 1)] 2) :: boxR c2 (.deferred (some [])) :: boxR x8 (.cells #[.int .i64 4, .int .i64 (H.last + 19), .string ⟨#[]⟩] 31) :: boxR c1 (.deferred (some [])) :: boxR (x3 + 1 + 1) (.cells #[.map (some (x3 + 1))] 72) :: mapF (x3 + 1) (mapL H.last 17) :: boxR x3 (.cells #[.int .i64 4, .int .i64 (H.last + 1), .string ⟨#[]⟩] 31) :: boxR (b + 1) (.cells #[.int .i64 0, .int .i64 0, .string ⟨#[]⟩] 31) :: boxR b (.cells #[.pointer (some ⟨h, 0, none⟩)] 28) :: heapR h (bootM H) :: RE) w8 := S8
      have e0 := cellAt (S9.box (b := x8) 2 rfl) 0 (v := .int .i64 4) rfl
      have e1 := cellAt (S9.box (b := x8) 2 rfl) 1 (v := .int .i64 (H.last + 19)) rfl
      have e2 := cellAt (S9.box (b := x8) 2 rfl) 2 (v := .string ⟨#[]⟩) rfl
      have r0 := cellAt (S9.box (b := b + 1) 7 rfl) 0 (v := .int .i64 0) rfl
      have r1 := cellAt (S9.box (b := b + 1) 7 rfl) 1 (v := .int .i64 0) rfl
      have r2 := cellAt (S9.box (b := b + 1) 7 rfl) 2 (v := .string ⟨#[]⟩) rfl
      have r3 := frozenAt (S9.box (b := b + 1) 7 rfl) 0
      have r4 := frozenAt (S9.box (b := b + 1) 7 rfl) 1
      have r5 := frozenAt (S9.box (b := b + 1) 7 rfl) 2
      have T1 := S9.setBox (cs := #[.int .i64 0, .int .i64 0, .string ⟨#[]⟩]) (t := 31) 7 rfl 0 (.int .i64 4)
      have T2 := T1.setBox (cs := #[.int .i64 4, .int .i64 0, .string ⟨#[]⟩]) (t := 31) 7 rfl 1 (.int .i64 (H.last + 19))
      have T3 := Lib.hid (T2.setBox (cs := #[.int .i64 4, .int .i64 (H.last + 19), .string ⟨#[]⟩]) (t := 31) 7 rfl 2 (.string ⟨#[]⟩)); clear S8 S9 T1 T2
      gi_wp2
      refine ⟨by simp, .inl ⟨_, _, rfl, run_takeDeferred (T3.out.box 1 rfl), ?_⟩⟩
      have T4 := T3.out.putObj 1 rfl (.deferred none)
      refine ⟨by simp, .inl ⟨_, _, rfl, run_takeDeferred (T4.box (b := c1) 3 rfl), ?_⟩⟩
      have T5 := T4.putObj (b := c1) 3 rfl (.deferred none)
      have q0 := cellAt (T5.box (b := b + 1) 7 rfl) 0 (v := .int .i64 4) rfl
      have q1 := cellAt (T5.box (b := b + 1) 7 rfl) 1 (v := .int .i64 (H.last + 19)) rfl
      have q2 := cellAt (T5.box (b := b + 1) 7 rfl) 2 (v := .string ⟨#[]⟩) rfl
      refine ⟨.agg #[.int .i64 4, .int .i64 (H.last + 19), .string ⟨#[]⟩], by simp [results, Tryd.results15, go_sem, q0, q1, q2], rfl, ?_⟩
      exact HP.out _ _ T5.tail.tail.tail.tail.tail.tail.tail.tail.tail
    case stop2 =>
      intro _ k _ W3 hk h
      exact h.elim
  case stop =>
    intro _ k _ W3 hk h
    exact h.elim
end
end Go.Proofs.YtobcnffjfclolaaDoor
