import Derived.Test.YtobcnffjfclolaaDoorFaultC
import Derived.Test.YtobcnffjfclolaaDoorObjC
import Derived.Test.YtobcnffjfclolaaDoorFaultA
import Derived.Test.YtobcnffjfclolaaDoorFaultB
import Derived.Test.YtobcnffjfclolaaDoorLocal
/- fault: candidates, Matches. -/
namespace Go.Proofs.YtobcnffjfclolaaDoor
set_option linter.unusedSimpArgs false
open Go.RowKit
set_option linter.unusedVariables false
attribute [local go_sem] Oper.semAt_some
section
variable {w W : World} {Rs : List Res} {h : Nat} {H : HeapM}
theorem cands_ok (W : World) (v : V) : Calls Tryd.prog 43 #[.pointer (some ⟨h, 0, none⟩), v.val] W fun e W' => e = .returned (.func (.func 63) #[] #[.pointer (some ⟨W.heap.size, 0, none⟩), .pointer (some ⟨W.heap.size + 1, 0, none⟩)]) ∧
    W' = (W.alloc (.cells #[.pointer (some ⟨h, 0, none⟩)] 28)).alloc (.cells #[.int .i64 v.kind, .int .i64 v.n, .string v.s] 31) := by
  simp only [V.val]
  go_enter Tryd.func43, Tryd.ntmps43
  go_wp2
  go_ret
  exact ⟨rfl, rfl⟩
theorem enters_cands : Enters Tryd.prog 63 := enters_of Tryd.func63 (by kernel_rfl) rfl
set_option maxRecDepth 100000 in
set_option maxHeartbeats 1600000 in
theorem cands_iter (b1 b2 : Nat) (v : V) {N : Nat} (G : H.Good N) (hN : N ≤ 4000000) :
    IterSep Tryd.prog w 63 #[.pointer (some ⟨b1, 0, none⟩), .pointer (some ⟨b2, 0, none⟩)] (orderE (H.candsF v)) (H.candsF v).length (orderF b1 b2 v h H) := by
  intro l In Ex W1 R hY h0 S0
  have A0 := orderF_at (b1 := b1) (b2 := b2) (v := v) (h := h) (H := H) R []
  rw [List.append_nil] at A0
  have x1 := cellAt (S0.box _ A0.1) 0 (v := .pointer (some ⟨h, 0, none⟩)) rfl
  have y0 := cellAt (S0.box _ A0.2.1) 0 (v := .int .i64 v.kind) rfl
  have y1 := cellAt (S0.box _ A0.2.1) 1 (v := .int .i64 v.n) rfl
  have y2 := cellAt (S0.box _ A0.2.1) 2 (v := .string v.s) rfl
  have C := Lib.hid (S0.kind _ A0.2.2 v)
  have HY := Lib.hid hY
  have HG := Lib.hid (And.intro G hN)
  have H0 := Lib.hid h0
  clear hY S0 A0 G hN h0
  refine (callsIn_wide (n := 8)).1 ?_
  refine callsIn_of_wp Tryd.func63 rfl trivial ?_ rfl
  simp only [Tryd.ntmps63, List.size_toArray, List.length_cons, List.length_nil, Nat.reduceAdd, Nat.reduceSub, Array.replicate_succ, Array.replicate_zero, List.push_toArray, List.append_toArray, List.nil_append, List.cons_append]
  gi_wp2_with fail
  refine ⟨trivial, (callsIn_wide.2 C.out).mono ?_⟩
  rintro e w1 ⟨rfl, S1, -⟩
  clear x1 y0 y1 y2 C
  have A1 := orderF_at (b1 := b1) (b2 := b2) (v := v) (h := h) (H := H) R []
  rw [List.append_nil] at A1
  have y0 := cellAt (S1.box _ A1.2.1) 0 (v := .int .i64 v.kind) rfl
  have y1 := cellAt (S1.box _ A1.2.1) 1 (v := .int .i64 v.n) rfl
  have y2 := cellAt (S1.box _ A1.2.1) 2 (v := .string v.s) rfl
  have hL : H.candsF v = if H.kind v = 2 then H.items v else [v] := rfl
  obtain ⟨kd, hkd⟩ : ∃ gx_, (H.kind v) = gx_ := ⟨_, rfl⟩
  rw [hkd] at hL
  rw [hkd]
  by_cases hk : kd = 2
  · subst hk
    rw [if_pos rfl] at hL
    have x1 := cellAt (S1.box _ A1.1) 0 (v := .pointer (some ⟨h, 0, none⟩)) rfl
    have C3 := Lib.hid (S1.items _ A1.2.2 HG.out.1 HG.out.2 v)
    have hil := HG.out.1.items v
    have HLL := Lib.hid hL
    rw [← hL] at hil
    clear S1 A1 hkd hL
    gi_wp2_with fail
    refine ⟨trivial, (callsIn_wide.2 C3.out).mono ?_⟩
    rintro e w4 ⟨sv, rfl, S5, -⟩
    rw [← HLL.out] at S5
    obtain ⟨ia, ic, rfl⟩ := (S5.row 0 rfl).form
    obtain ⟨I, hI⟩ : ∃ gx_, (H.candsF v) = gx_ := ⟨_, rfl⟩
    rw [hI] at S5 hil HY
    rw [hI]
    have hili : (I.length : Int) ≤ 4000000 := by have := HG.out.2; omega
    have S6 : Sep w (R ++ (orderF b1 b2 v h H ++ [valsR (.slice ia I.length ic) I])) w4 := by
      exact S5.perm (by have := tail_perm (valsR (.slice ia I.length ic) I) R (orderF b1 b2 v h H) []; rw [List.append_nil] at this; exact this)
    have S7 := Lib.hid S6
    have HI := Lib.hid hI
    clear C3 x1 y0 y1 y2 hI S5 S6 hil HLL
    gi_wp2_with fail
    gi_loopw [17] (fun iv wr => ∃ (k : Nat) (R' : List Res), k ≤ I.length ∧ iv = .int .i64 k ∧ In k R' ∧ Sep w (R' ++ (orderF b1 b2 v h H ++ [valsR (.slice ia I.length ic) I])) wr) (fun iv _ => I.length - (intOf iv).toNat)
    case atStart => exact ⟨0, R, by omega, rfl, H0.out, S7.out⟩
    case round =>
      clear S7 H0
      obtain ⟨k, R2, hk, rfl, hIn, S8⟩ := hrel
      have A3 : (R2 ++ (orderF b1 b2 v h H ++ [valsR (.slice ia I.length ic) I]))[R2.length + 3]? = some (valsR (.slice ia I.length ic) I) := by rw [List.getElem?_append_right (by omega)]; simp
      by_cases hlt : k < I.length
      · have hlti : (k : Int) < I.length := by omega
        obtain ⟨x, hx⟩ : ∃ x, I[k]? = some x := ⟨I[k], by simp [hlt]⟩
        have hrow := S8.row _ A3
        obtain ⟨ig, rfl⟩ : ∃ g, ia = some ⟨g, 0, none⟩ := by
          rcases hrow.shape with ⟨h1, h2⟩ | ⟨g, cap, h1, _⟩
          · rw [h2] at hlt; simp at hlt
          · exact ⟨g, (Value.slice.inj h1).1⟩
        have z0 := hrow.cell V.cells_len rfl hx (j := 0) (u := .int .i64 x.kind) rfl; have z1 := hrow.cell V.cells_len rfl hx (j := 1) (u := .int .i64 x.n) rfl; have z2 := hrow.cell V.cells_len rfl hx (j := 2) (u := .string x.s) rfl
        rw [Nat.add_zero] at z0
        obtain ⟨vb, hvb⟩ : ∃ gx_, (wr.heap.size) = gx_ := ⟨_, rfl⟩
        have S9 := S8.alloc (.cells #[.int .i64 x.kind, .int .i64 x.n, .string x.s] 31)
        rw [hvb] at S9
        have p0 := cellAt (S9.box 0 rfl) 0 (v := .int .i64 x.kind) rfl
        have p1 := cellAt (S9.box 0 rfl) 1 (v := .int .i64 x.n) rfl
        have p2 := cellAt (S9.box 0 rfl) 2 (v := .string x.s) rfl
        have henc : orderE I k = #[x.val] := by unfold orderE atV; rw [hx]; rfl
        have S10 := S9.perm (by have := tail_perm (boxR vb (.cells #[.int .i64 x.kind, .int .i64 x.n, .string x.s] 31)) R2 (orderF b1 b2 v h H) [valsR (.slice (some ⟨ig, 0, none⟩) I.length ic) I]; exact this)
        obtain ⟨fn, tmps, assign, body, hy, hR⟩ := HY.out k R2 _ _ hlt hIn S10
        rw [henc] at hy
        simp only [V.val] at hy
        have HX := Lib.hid hlt; clear hrow S8 S9 S10 hIn hlt hx A3 henc
        gi_wp2_with fail
        (try simp only [hvb])
        refine hR.mono ?_
        rintro e w7 (⟨rfl, R3, hR3, S13⟩ | ⟨rfl, R3, hR3, S13⟩)
        · have S14 := Lib.hid (S13.sub (List.Sublist.append_left (List.Sublist.append_left (List.sublist_cons_self _ _) (orderF b1 b2 v h H)) R3))
          have HR3 := Lib.hid hR3; clear hy hR S13 hR3 hvb z0 z1 z2 p0 p1 p2
          gi_wp2
          exact ⟨⟨k + 1, R3, by have := HX.out; omega, by go_num, HR3.out, S14.out⟩, by have := HX.out; simp [intOf]; omega⟩
        · have S14 := Lib.hid (S13.sub (List.sublist_append_left R3 _))
          have HR3 := Lib.hid hR3; clear hy hR S13 hR3 hvb z0 z1 z2 p0 p1 p2
          gi_wp2
          refine bodyPost_ret (results_none rfl _ _ _) rfl ?_
          exact ⟨⟨_, rfl⟩, .inr ⟨_, R3, by rw [HI.out]; exact HX.out, HR3.out, S14.out⟩⟩
      · have hlti : ¬ (k : Int) < I.length := by omega
        have S9 := Lib.hid (S8.sub (List.Sublist.append_left (List.sublist_append_left (orderF b1 b2 v h H) _) R2))
        obtain rfl : k = I.length := by omega
        have HIN := Lib.hid hIn; clear S8 hlt A3 hIn
        gi_wp2
        refine bodyPost_end (results_none rfl _ _ _) rfl ?_
        exact ⟨⟨_, rfl⟩, .inl ⟨R2, by rw [HI.out]; exact HIN.out, S9.out⟩⟩
  · rw [if_neg hk] at hL
    have hk1 : (kd == 2) = false := by simpa using hk
    have hk2 : (kd != 2) = true := by simpa using hk
    have henc : orderE (H.candsF v) 0 = #[v.val] := by rw [hL]; rfl
    have hlen : (H.candsF v).length = 1 := by rw [hL]; rfl
    obtain ⟨fn, tmps, assign, body, hy, hR⟩ := HY.out 0 R w1 [] (by rw [hlen]; omega) H0.out (by rw [List.append_nil]; exact S1)
    rw [henc] at hy
    simp only [V.val] at hy
    have HLN := Lib.hid hlen
    clear S1 A1 hkd hL hk henc hlen H0
    gi_wp2_with fail
    refine hR.mono ?_
    rintro e w3 (⟨rfl, R1, hR1, S4⟩ | ⟨rfl, R1, hR1, S4⟩)
    · have S5 := Lib.hid S4
      have HR1 := Lib.hid hR1; clear hy hR S4 hR1 y0 y1 y2
      gi_wp2
      refine bodyPost_ret (results_none rfl _ _ _) rfl ?_
      have S6 := S5.out
      rw [List.append_nil] at S6
      exact ⟨⟨_, rfl⟩, .inl ⟨R1, by rw [HLN.out]; exact HR1.out, S6⟩⟩
    · have S5 := Lib.hid S4
      have HR1 := Lib.hid hR1; clear hy hR S4 hR1 y0 y1 y2
      gi_wp2
      refine bodyPost_ret (results_none rfl _ _ _) rfl ?_
      have S6 := S5.out
      rw [List.append_nil] at S6
      exact ⟨⟨_, rfl⟩, .inr ⟨1, R1, by rw [HLN.out]; omega, HR1.out, S6⟩⟩
end
end Go.Proofs.YtobcnffjfclolaaDoor
/- fault: Matches. -/
namespace Go.Proofs.YtobcnffjfclolaaDoor
set_option linter.unusedSimpArgs false
open Go.RowKit
set_option linter.unusedVariables false
attribute [local go_sem] Oper.semAt_some
/-- The name of what Matches raises. -/
def typeE : ByteArray := ⟨#[84, 121, 112, 101, 69, 114, 114, 111, 114]⟩
def excM (m : Option Bool) : ByteArray := match m with | some _ => ⟨#[]⟩ | none => typeE
theorem matchF_none {H : HeapM} {boot v cl : V} {k : Nat} (hk : k < (H.candsF cl).length) (h : H.isClsF boot (atV (H.candsF cl) k) = false) : H.matchF boot v cl = none := by
  unfold HeapM.matchF
  rw [if_neg]
  intro e
  rw [List.all_eq_true] at e
  have e2 := e (H.candsF cl)[k] (List.getElem_mem _)
  unfold atV at h
  rw [List.getElem?_eq_getElem hk, Option.getD_some, e2] at h
  cases h
theorem matchF_some {H : HeapM} {boot v cl : V} (h : ∀ j, j < (H.candsF cl).length → H.isClsF boot (atV (H.candsF cl) j) = true) : H.matchF boot v cl = some ((H.candsF cl).any (H.hitF boot v)) := by
  unfold HeapM.matchF
  rw [if_pos]
  rw [List.all_eq_true]
  intro x hx
  obtain ⟨j, hj, rfl⟩ := List.getElem_of_mem hx
  have e := h j hj
  unfold atV at e
  rw [List.getElem?_eq_getElem hj, Option.getD_some] at e
  exact e
theorem any_take {L : List V} {k : Nat} (hk : k < L.length) (p : V → Bool) : (L.take (k + 1)).any p = ((L.take k).any p || p (atV L k)) := by
  rw [List.take_add_one, List.any_append, List.getElem?_eq_getElem hk, Option.toList_some]
  unfold atV
  rw [List.getElem?_eq_getElem hk, Option.getD_some]
  simp
theorem ite_skip {c : Prop} [Decidable c] {A B : Prop} (h : ¬ c) (b : B) : if c then A else B := by rw [if_neg h]; exact b
/-- Matches' own cells. -/
abbrev mateR (b q p h : Nat) (boot v cl o : V) (ok fd r : Bool) (s : ByteArray) (RE : List Res) : List Res :=
  boxR p (.cells #[.bool fd] 4) :: boxR (q + 1) (.cells #[.bool ok] 4) :: valB q o :: boxR (b + 1 + 1 + 1 + 1 + 1) (.cells #[.string s, .int .i64 0, .int .i64 0, .string ⟨#[]⟩, .bool false] 35) ::
    boxR (b + 1 + 1 + 1 + 1) (.cells #[.bool r] 4) :: valB (b + 1 + 1 + 1) cl :: valB (b + 1 + 1) v :: valB (b + 1) boot :: boxR b (.cells #[.pointer (some ⟨h, 0, none⟩)] 28) :: RE
section
variable {w W : World} {Rs : List Res} {h : Nat} {H : HeapM}
theorem candF_ok {W : World} (S : Sep w Rs W) (i : Nat) (hi : Rs[i]? = some (heapR h H)) (v : V) {A : List Res} (hA : Rs.eraseIdx i = A) :
    Sep w (A ++ orderF W.heap.size (W.heap.size + 1) v h H) ((W.alloc (.cells #[.pointer (some ⟨h, 0, none⟩)] 28)).alloc (.cells #[.int .i64 v.kind, .int .i64 v.n, .string v.s] 31)) := by
  subst hA; exact S.orderF i hi v
set_option maxRecDepth 100000 in
set_option maxHeartbeats 3200000 in
theorem matches_ok (S : Sep w Rs W) (i : Nat) (hi : Rs[i]? = some (heapR h H)) {N : Nat} (G : H.Good N) (hN : N ≤ 4000000) (boot v cl : V) :
    Calls Tryd.prog 19 #[.pointer (some ⟨h, 0, none⟩), boot.val, v.val, cl.val] W fun e W' => e = .returned (.tuple #[.bool ((H.matchF boot v cl).getD false), .agg #[.string (excM (H.matchF boot v cl)), .int .i64 0, .int .i64 0, .string ⟨#[]⟩, .bool false]]) ∧ Sep w Rs W' := by
  have HP : Hid (∀ W, Sep w (Rs.eraseIdx i ++ [heapR h H]) W → Sep w Rs W) := Lib.hid fun W T => T.perm (pull_perm hi).symm
  have HG := Lib.hid (And.intro G hN)
  have S0 : Sep w (heapR h H :: Rs.eraseIdx i) W := S.perm ((pull_perm hi).trans (List.perm_append_singleton _ _))
  obtain ⟨RE, hRE⟩ : ∃ gx_, (Rs.eraseIdx i) = gx_ := ⟨_, rfl⟩
  rw [hRE] at S0 HP
  clear S hRE hi G hN
  obtain ⟨b, hb⟩ : ∃ gx_, (W.heap.size) = gx_ := ⟨_, rfl⟩
  have S1 := (((((S0.alloc (.cells #[.pointer (some ⟨h, 0, none⟩)] 28)).alloc (.cells #[.int .i64 boot.kind, .int .i64 boot.n, .string boot.s] 31)).alloc (.cells #[.int .i64 v.kind, .int .i64 v.n, .string v.s] 31)).alloc (.cells #[.int .i64 cl.kind, .int .i64 cl.n, .string cl.s] 31)).alloc (.cells #[.bool false] 4)).alloc (.cells #[.string ⟨#[]⟩, .int .i64 0, .int .i64 0, .string ⟨#[]⟩, .bool false] 35)
  simp only [World.size_alloc, hb] at S1
  replace S1 : Sep w (boxR (b + 1 + 1 + 1 + 1 + 1) (.cells #[.string ⟨#[]⟩, .int .i64 0, .int .i64 0, .string ⟨#[]⟩, .bool false] 35) :: boxR (b + 1 + 1 + 1 + 1) (.cells #[.bool false] 4) :: valB (b + 1 + 1 + 1) cl :: valB (b + 1 + 1) v :: valB (b + 1) boot :: boxR b (.cells #[.pointer (some ⟨h, 0, none⟩)] 28) :: heapR h H :: RE) _ := S1
  have C1 := of_ok S1 6 rfl v
  have d0 := cellAt (S1.box (b := b) 5 rfl) 0 (v := .pointer (some ⟨h, 0, none⟩)) rfl
  obtain ⟨d1, d2, d3, -, -, -⟩ := valBlkO (S1.box (b := b + 1 + 1) 3 rfl)
  obtain ⟨o, ho⟩ : ∃ o : V, (H.ofM v).getD V.zero = o := ⟨_, rfl⟩
  obtain ⟨ok, hok⟩ : ∃ ok : Bool, (H.ofM v).isSome = ok := ⟨_, rfl⟩
  have hIs : H.isF boot v = (ok && H.isClsF boot o) := by
    unfold HeapM.isF
    rw [← ho, ← hok]
    cases H.ofM v <;> rfl
  have hHit : ∀ c, H.hitF boot v c = (H.isF boot v && H.subM o c) := fun c => by unfold HeapM.hitF; rw [ho]
  rw [ho, hok] at C1
  simp only [V.val] at C1
  replace C1 := Lib.hid C1
  have HIS := Lib.hid (And.intro hIs hHit)
  clear S0 S1 ho hok hIs hHit
  simp only [V.val]
  refine (callsIn_wide (n := 9)).1 ?_
  refine callsIn_of_wp_marks Tryd.func19 rfl trivial ?_ rfl
  simp only [Tryd.ntmps19, List.size_toArray, List.length_cons, List.length_nil, Nat.reduceAdd, Nat.reduceSub, Array.replicate_succ, Array.replicate_zero, List.push_toArray, List.append_toArray, List.nil_append, List.cons_append]
  gi_wp2_with fail
  try simp only [hb]
  refine ⟨trivial, (callsIn_wide.2 C1.out).mono ?_⟩
  rintro e w1 ⟨rfl, S2⟩
  obtain ⟨q, hq⟩ : ∃ gx_, (w1.heap.size) = gx_ := ⟨_, rfl⟩
  have S3 := (S2.alloc (.cells #[.int .i64 o.kind, .int .i64 o.n, .string o.s] 31)).alloc (.cells #[.bool ok] 4)
  simp only [World.size_alloc, hq] at S3
  replace S3 : Sep w (boxR (q + 1) (.cells #[.bool ok] 4) :: valB q o :: boxR (b + 1 + 1 + 1 + 1 + 1) (.cells #[.string ⟨#[]⟩, .int .i64 0, .int .i64 0, .string ⟨#[]⟩, .bool false] 35) :: boxR (b + 1 + 1 + 1 + 1) (.cells #[.bool false] 4) :: valB (b + 1 + 1 + 1) cl :: valB (b + 1 + 1) v :: valB (b + 1) boot :: boxR b (.cells #[.pointer (some ⟨h, 0, none⟩)] 28) :: heapR h H :: RE) _ := S3
  clear C1 d0 d1 d2 d3 S2 hb
  have e0 := cellAt (S3.box (b := b) 7 rfl) 0 (v := .pointer (some ⟨h, 0, none⟩)) rfl
  obtain ⟨e1, e2, e3, -, -, -⟩ := valBlkO (S3.box (b := b + 1) 6 rfl)
  obtain ⟨e4, e5, e6, -, -, -⟩ := valBlkO (S3.box (b := q) 1 rfl)
  have e7 := cellAt (S3.box (b := q + 1) 0 rfl) 0 (v := .bool ok) rfl
  have e8 := frozenAt (S3.box (b := q + 1) 0 rfl) 0
  have C2 := fiscls_ok S3 8 rfl HG.out.1 HG.out.2 boot o
  simp only [V.val] at C2
  replace C2 := Lib.hid C2
  gi_upto_region 2 with fail
  gi_cut [10, 11] from 14 (fun s10 s11 wx => s10 = .pointer (some ⟨q, 0, none⟩) ∧ s11 = .pointer (some ⟨q + 1, 0, none⟩) ∧ Sep w (boxR (q + 1) (.cells #[.bool (H.isF boot v)] 4) :: valB q o :: boxR (b + 1 + 1 + 1 + 1 + 1) (.cells #[.string ⟨#[]⟩, .int .i64 0, .int .i64 0, .string ⟨#[]⟩, .bool false] 35) :: boxR (b + 1 + 1 + 1 + 1) (.cells #[.bool false] 4) :: valB (b + 1 + 1 + 1) cl :: valB (b + 1 + 1) v :: valB (b + 1) boot :: boxR b (.cells #[.pointer (some ⟨h, 0, none⟩)] 28) :: heapR h H :: RE) wx)
  case first =>
    have HQ := Lib.hid hq
    cases ok with
    | false =>
      have hI : H.isF boot v = false := by rw [HIS.out.1]; rfl
      have S4 := S3.setBox (cs := #[.bool false]) (t := 4) 0 rfl 0 (.bool false)
      have HJ := Lib.hid hI; clear C2 hI S3 hq
      gi_wp2_with fail
      (try simp only [HQ.out])
      refine ⟨trivial, ?_⟩
      gi_wp2_with fail
      gi_meet
      exact ⟨rfl, rfl, by rw [HJ.out]; exact S4⟩
    | true =>
      have hI : H.isF boot v = H.isClsF boot o := by rw [HIS.out.1]; rfl
      have HJ := Lib.hid hI; clear hI hq
      have S3' := Lib.hid S3; clear S3
      gi_wp2_with fail
      (try simp only [HQ.out])
      refine ⟨trivial, (callsIn_wide.2 C2.out).mono ?_⟩
      rintro e w2 ⟨rfl, S4⟩
      have f7 := cellAt (S4.box (b := q + 1) 0 rfl) 0 (v := .bool true) rfl
      have f8 := frozenAt (S4.box (b := q + 1) 0 rfl) 0
      have S5 := S4.setBox (cs := #[.bool true]) (t := 4) 0 rfl 0 (.bool (H.isClsF boot o)); clear C2 e0 e1 e2 e3 e4 e5 e6 e7 e8 S4 S3'
      gi_wp2_with fail
      gi_meet
      exact ⟨rfl, rfl, by rw [HJ.out]; exact S5⟩
  case rest =>
    obtain ⟨rfl, rfl, S4⟩ := hcut
    clear C2 e0 e1 e2 e3 e4 e5 e6 e7 e8 S3 hq
    obtain ⟨hit, hhit⟩ : ∃ gx_, (H.isF boot v) = gx_ := ⟨_, rfl⟩
    have HH := Lib.hid hhit
    have S5 := S4.alloc (.cells #[.bool false] 4)
    rw [hhit] at S5
    clear S4 hhit
    gi_upto_region 4 with fail
    obtain ⟨p, hp⟩ : ∃ gx_, (wc.heap.size) = gx_ := ⟨_, rfl⟩
    rw [hp] at S5
    rw [hp]
    replace S5 : Sep w (boxR p (.cells #[.bool false] 4) :: boxR (q + 1) (.cells #[.bool hit] 4) :: valB q o :: boxR (b + 1 + 1 + 1 + 1 + 1) (.cells #[.string ⟨#[]⟩, .int .i64 0, .int .i64 0, .string ⟨#[]⟩, .bool false] 35) :: boxR (b + 1 + 1 + 1 + 1) (.cells #[.bool false] 4) :: valB (b + 1 + 1 + 1) cl :: valB (b + 1 + 1) v :: valB (b + 1) boot :: boxR b (.cells #[.pointer (some ⟨h, 0, none⟩)] 28) :: heapR h H :: RE) _ := S5
    obtain ⟨W1, hW1⟩ : ∃ gx_, (wc.alloc (.cells #[.bool false] 4)) = gx_ := ⟨_, rfl⟩
    rw [hW1] at S5
    rw [hW1]
    clear hW1 hp
    have g0 := cellAt (S5.box (b := b) 8 rfl) 0 (v := .pointer (some ⟨h, 0, none⟩)) rfl
    obtain ⟨g1, g2, g3, -, -, -⟩ := valBlkO (S5.box (b := b + 1 + 1 + 1) 5 rfl)
    have C := cands_ok (h := h) W1 cl
    simp only [V.val] at C
    replace C := Lib.hid C
    have S6 := Lib.hid (candF_ok S5 9 rfl cl (A := mateR b q p h boot v cl o hit false false ⟨#[]⟩ RE) rfl)
    clear S5
    gi_wp2_with fail
    refine ⟨trivial, (callsIn_wide.2 C.out).mono ?_⟩
    rintro e W2 ⟨rfl, hW2⟩
    have S2 := S6.out
    rw [← hW2] at S2
    obtain ⟨c1, hc1⟩ : ∃ gx_, (W1.heap.size) = gx_ := ⟨_, rfl⟩
    rw [hc1] at S2
    rw [hc1]
    have hB : W2.heap.size = c1 + 2 := by rw [hW2]; simp [hc1]
    clear hW2 hc1 C S6 g0 g1 g2 g3
    have IT := Lib.hid (cands_iter (w := w) (h := h) (H := H) c1 (c1 + 1) cl HG.out.1 HG.out.2)
    obtain ⟨L, hL⟩ : ∃ gx_, (H.candsF cl) = gx_ := ⟨_, rfl⟩
    rw [hL] at IT
    have HL := Lib.hid hL
    replace S2 := Lib.hid S2
    clear hL
    gi_wp2_with fail
    refine range_sep (w := w) (B := c1 + 2) hB (hg := rfl) enters_cands (fun _ => rfl)
      (fun k R => (∀ j, j < k → H.isClsF boot (atV L j) = true) ∧ R = mateR b q p h boot v cl o hit ((L.take k).any (H.hitF boot v)) false ⟨#[]⟩ RE)
      (fun c k R => c = .ret ∧ H.matchF boot v cl = none ∧ R = boxR (b + 1 + 1 + 1 + 1 + 1) (.cells #[.string typeE, .int .i64 0, .int .i64 0, .string ⟨#[]⟩, .bool false] 35) :: boxR (b + 1 + 1 + 1 + 1) (.cells #[.bool false] 4) :: (RE ++ [heapR h H])) (n := L.length) (encs := orderE L) IT.out (R0 := mateR b q p h boot v cl o hit false false ⟨#[]⟩ RE)
      ⟨fun j hj => by omega, by simp⟩ (by exact S2.out)
      (fun k s' => { tmps := #[.pointer (some ⟨h, 0, none⟩), .agg #[.int .i64 boot.kind, .int .i64 boot.n, .string boot.s], .agg #[.int .i64 v.kind, .int .i64 v.n, .string v.s], .agg #[.int .i64 cl.kind, .int .i64 cl.n, .string cl.s], .pointer (some ⟨b, 0, none⟩), .pointer (some ⟨b + 1, 0, none⟩), .pointer (some ⟨b + 1 + 1, 0, none⟩), .pointer (some ⟨b + 1 + 1 + 1, 0, none⟩), .pointer (some ⟨b + 1 + 1 + 1 + 1, 0, none⟩), .pointer (some ⟨b + 1 + 1 + 1 + 1 + 1, 0, none⟩), .pointer (some ⟨q, 0, none⟩), .pointer (some ⟨q + 1, 0, none⟩), .pointer (some ⟨p, 0, none⟩), .pointer (some ⟨s', 0, none⟩), u14, u15, u16, u17, u18, u19, u20, u21, u22, u23, u24, u25, u26, .pointer (some ⟨h, 0, none⟩), .agg #[.int .i64 cl.kind, .int .i64 cl.n, .string cl.s], .func (.func 63) #[] #[.pointer (some ⟨c1, 0, none⟩), .pointer (some ⟨c1 + 1, 0, none⟩)], (atV L k).val, u31, u32, u33, u34, u35, u36, u37, u38, u39, u40, u41, u42, u43, u44, u45, u46, u47, u48], defers := [] })
      (fun k W => W.alloc (.cells #[.int .i64 (atV L k).kind, .int .i64 (atV L k).n, .string (atV L k).s] 31))
      (fun k s => [valB s (atV L k)])
      (fun k W Rs _ S => S.alloc _) ?assign ?body ?done ?stop
    case assign =>
      intro l k W K hk hK
      simp only [V.val] at hK
      simp only [orderE, V.val]
      gi_wp2
      exact hK
    case body =>
      rintro l k s _ Gs W3 hk ⟨hall, rfl⟩ S3
      have HK := Lib.hid (And.intro hk hall)
      have hany := any_take hk (H.hitF boot v)
      rw [HIS.out.2, HH.out] at hany
      have HA := Lib.hid hany
      obtain ⟨fd, hfd⟩ : ∃ gx_, ((L.take k).any (H.hitF boot v)) = gx_ := ⟨_, rfl⟩
      rw [hfd] at S3
      have HFD := Lib.hid hfd; clear hall hk S2 IT hB hany hfd
      obtain ⟨x, hx⟩ : ∃ gx_, (atV L k) = gx_ := ⟨_, rfl⟩
      rw [hx] at S3
      have HX := Lib.hid hx; clear hx
      obtain ⟨base, hbase⟩ : ∃ base : List Res, base = RE ++ (orderF c1 (c1 + 1) cl h H ++ Gs) := ⟨_, rfl⟩
      have hbi : base[RE.length + 2]? = some (heapR h H) := by rw [hbase, List.getElem?_append_right (by omega)]; simp
      replace S3 : Sep w (valB s x :: mateR b q p h boot v cl o hit fd false ⟨#[]⟩ base) W3 := by rw [hbase]; exact S3
      have HBS := Lib.hid hbase
      have HBI := Lib.hid hbi; clear hbase hbi
      have C1 := fiscls_ok S3 (RE.length + 2 + 10) (by simpa using HBI.out) HG.out.1 HG.out.2 boot x
      have e0 := cellAt (S3.box (b := b) 9 rfl) 0 (v := .pointer (some ⟨h, 0, none⟩)) rfl
      obtain ⟨e1, e2, e3, -, -, -⟩ := valBlkO (S3.box (b := b + 1) 8 rfl)
      obtain ⟨e4, e5, e6, -, -, -⟩ := valBlkO (S3.box (b := s) 0 rfl)
      simp only [V.val] at C1
      simp only [V.val]
      replace C1 := Lib.hid C1
      replace S3 := Lib.hid S3
      gi_wp2_with fail
      refine ⟨trivial, (callsIn_wide.2 C1.out).mono ?_⟩
      rintro e w4 ⟨rfl, S4⟩; clear C1 e0 e1 e2 e3 e4 e5 e6 S3
      cases hc : H.isClsF boot x with
      | false =>
        have d0 := cellAt (S4.box (b := b + 1 + 1 + 1 + 1) 5 rfl) 0 (v := .bool false) rfl
        have d1 := frozenAt (S4.box (b := b + 1 + 1 + 1 + 1) 5 rfl) 0
        have d2 := frozenAt (S4.box (b := b + 1 + 1 + 1 + 1 + 1) 4 rfl) 0
        have d3 := frozenAt (S4.box (b := b + 1 + 1 + 1 + 1 + 1) 4 rfl) 1
        have d4 := frozenAt (S4.box (b := b + 1 + 1 + 1 + 1 + 1) 4 rfl) 2
        have d5 := frozenAt (S4.box (b := b + 1 + 1 + 1 + 1 + 1) 4 rfl) 3
        have d6 := frozenAt (S4.box (b := b + 1 + 1 + 1 + 1 + 1) 4 rfl) 4
        have d7 := cellAt (S4.box (b := b + 1 + 1 + 1 + 1 + 1) 4 rfl) 0 (v := .string ⟨#[]⟩) rfl
        have d8 := cellAt (S4.box (b := b + 1 + 1 + 1 + 1 + 1) 4 rfl) 1 (v := .int .i64 0) rfl
        have d9 := cellAt (S4.box (b := b + 1 + 1 + 1 + 1 + 1) 4 rfl) 2 (v := .int .i64 0) rfl
        have d10 := cellAt (S4.box (b := b + 1 + 1 + 1 + 1 + 1) 4 rfl) 3 (v := .string ⟨#[]⟩) rfl
        have d11 := cellAt (S4.box (b := b + 1 + 1 + 1 + 1 + 1) 4 rfl) 4 (v := .bool false) rfl
        have T0 := S4.setBox (cs := #[.bool false]) (t := 4) 5 rfl 0 (.bool false)
        have T1 := T0.setBox (cs := #[.string ⟨#[]⟩, .int .i64 0, .int .i64 0, .string ⟨#[]⟩, .bool false]) (t := 35) 4 rfl 0 (.string typeE)
        have T2 := T1.setBox (cs := #[.string typeE, .int .i64 0, .int .i64 0, .string ⟨#[]⟩, .bool false]) (t := 35) 4 rfl 1 (.int .i64 0)
        have T3 := T2.setBox (cs := #[.string typeE, .int .i64 0, .int .i64 0, .string ⟨#[]⟩, .bool false]) (t := 35) 4 rfl 2 (.int .i64 0)
        have T4 := T3.setBox (cs := #[.string typeE, .int .i64 0, .int .i64 0, .string ⟨#[]⟩, .bool false]) (t := 35) 4 rfl 3 (.string ⟨#[]⟩)
        have T5 := T4.setBox (cs := #[.string typeE, .int .i64 0, .int .i64 0, .string ⟨#[]⟩, .bool false]) (t := 35) 4 rfl 4 (.bool false)
        have HN := Lib.hid (matchF_none (H := H) (boot := boot) (v := v) (cl := cl) (k := k) (by rw [HL.out]; exact HK.out.1) (by rw [HL.out, HX.out]; exact hc))
        replace T5 := Lib.hid T5; clear hc S4 T0 T1 T2 T3 T4
        gi_wp2_with fail
        refine ⟨_, ⟨rfl, HN.out, rfl⟩, ?_⟩
        have T6 : Sep w (valB s x :: boxR p (.cells #[.bool fd] 4) :: boxR (q + 1) (.cells #[.bool hit] 4) :: valB q o :: boxR (b + 1 + 1 + 1 + 1 + 1) (.cells #[.string typeE, .int .i64 0, .int .i64 0, .string ⟨#[]⟩, .bool false] 35) :: boxR (b + 1 + 1 + 1 + 1) (.cells #[.bool false] 4) :: valB (b + 1 + 1 + 1) cl :: valB (b + 1 + 1) v :: valB (b + 1) boot :: boxR b (.cells #[.pointer (some ⟨h, 0, none⟩)] 28) :: base) _ := T5.out
        refine T6.sub (.cons _ (.cons _ (.cons _ (.cons _ (.cons_cons _ (.cons_cons _ (.cons _ (.cons _ (.cons _ (.cons _ ?_))))))))))
        show ((RE ++ [heapR h H]) ++ Gs).Sublist base
        rw [HBS.out, List.append_assoc]
        exact (List.Sublist.refl RE).append (List.Sublist.append (.cons _ (.cons _ (List.Sublist.refl _))) (List.Sublist.refl _))
      | true =>
        have HC := Lib.hid hc; clear hc
        have d0 := cellAt (S4.box (b := p) 1 rfl) 0 (v := .bool fd) rfl
        have d1 := frozenAt (S4.box (b := p) 1 rfl) 0
        have HEND : Hid (∀ W r, Sep w (valB s x :: mateR b q p h boot v cl o hit r false ⟨#[]⟩ base) W → r = (fd || (hit && H.subM o x)) → ∃ R', ((∀ j, j < k + 1 → H.isClsF boot (atV L j) = true) ∧ R' = mateR b q p h boot v cl o hit ((L.take (k + 1)).any (H.hitF boot v)) false ⟨#[]⟩ RE) ∧ Sep w (R' ++ (orderF c1 (c1 + 1) cl h H ++ Gs)) W) := Lib.hid (by
          rintro W r T rfl
          refine ⟨_, ⟨fun j hj => ?_, rfl⟩, ?_⟩
          · by_cases e : j = k
            · subst e; rw [HX.out]; exact HC.out
            · exact HK.out.2 j (by omega)
          · rw [HA.out, HFD.out, HX.out]
            have T1 := T.tail
            rw [HBS.out] at T1
            exact T1)
        cases fd with
        | true =>
          have T0 := S4.setBox (cs := #[.bool true]) (t := 4) 1 rfl 0 (.bool true)
          replace T0 := Lib.hid T0; clear S4
          gi_wp2_with (refine ite_skip ?_ ?_; (focus (simp [undef]; done)))
          (try (refine ⟨trivial, ?_⟩; gi_wp2_with fail))
          exact HEND.out _ _ T0.out rfl
        | false =>
          have d2 := cellAt (S4.box (b := q + 1) 2 rfl) 0 (v := .bool hit) rfl
          cases hit with
          | false =>
            have T0 := S4.setBox (cs := #[.bool false]) (t := 4) 1 rfl 0 (.bool false)
            replace T0 := Lib.hid T0; clear S4
            gi_wp2_with fail
            (try (refine ⟨trivial, ?_⟩; gi_wp2_with fail))
            exact HEND.out _ _ T0.out rfl
          | true =>
            have e0 := cellAt (S4.box (b := b) 9 rfl) 0 (v := .pointer (some ⟨h, 0, none⟩)) rfl
            obtain ⟨e1, e2, e3, -, -, -⟩ := valBlkO (S4.box (b := q) 3 rfl)
            obtain ⟨e4, e5, e6, -, -, -⟩ := valBlkO (S4.box (b := s) 0 rfl)
            have C2 := sub_ok S4 (RE.length + 2 + 10) (by simpa using HBI.out) HG.out.1 HG.out.2 o x
            simp only [V.val] at C2
            replace C2 := Lib.hid C2
            replace S4 := Lib.hid S4
            gi_wp2_with fail
            refine ⟨trivial, (callsIn_wide.2 C2.out).mono ?_⟩
            rintro e w5 ⟨rfl, S5⟩; clear C2 d0 d1 d2 e0 e1 e2 e3 e4 e5 e6 S4
            have d0 := cellAt (S5.box (b := p) 1 rfl) 0 (v := .bool false) rfl
            have d1 := frozenAt (S5.box (b := p) 1 rfl) 0
            have T0 := S5.setBox (cs := #[.bool false]) (t := 4) 1 rfl 0 (.bool (H.subM o x))
            replace T0 := Lib.hid T0; clear S5
            gi_wp2_with fail
            exact HEND.out _ _ T0.out rfl
    case done =>
      rintro _ W3 ⟨hall, rfl⟩ S3
      have hm : H.matchF boot v cl = some (L.any (H.hitF boot v)) := by
        rw [matchF_some (by rw [HL.out]; exact hall), HL.out]
      rw [List.take_length] at S3
      have HM := Lib.hid hm
      obtain ⟨fd, hfd⟩ : ∃ gx_, (L.any (H.hitF boot v)) = gx_ := ⟨_, rfl⟩
      rw [hfd] at S3
      have HFD := Lib.hid hfd; clear hfd hm hall
      replace S3 : Sep w (boxR (c1 + 2) (.deferred (some [])) :: mateR b q p h boot v cl o hit fd false ⟨#[]⟩ (RE ++ orderF c1 (c1 + 1) cl h H)) W3 := S3
      have e0 := cellAt (S3.box (b := p) 1 rfl) 0 (v := .bool fd) rfl
      have d0 := cellAt (S3.box (b := b + 1 + 1 + 1 + 1) 5 rfl) 0 (v := .bool false) rfl
      have d1 := frozenAt (S3.box (b := b + 1 + 1 + 1 + 1) 5 rfl) 0
      have d2 := frozenAt (S3.box (b := b + 1 + 1 + 1 + 1 + 1) 4 rfl) 0
      have d3 := frozenAt (S3.box (b := b + 1 + 1 + 1 + 1 + 1) 4 rfl) 1
      have d4 := frozenAt (S3.box (b := b + 1 + 1 + 1 + 1 + 1) 4 rfl) 2
      have d5 := frozenAt (S3.box (b := b + 1 + 1 + 1 + 1 + 1) 4 rfl) 3
      have d6 := frozenAt (S3.box (b := b + 1 + 1 + 1 + 1 + 1) 4 rfl) 4
      have d7 := cellAt (S3.box (b := b + 1 + 1 + 1 + 1 + 1) 4 rfl) 0 (v := .string ⟨#[]⟩) rfl
      have d8 := cellAt (S3.box (b := b + 1 + 1 + 1 + 1 + 1) 4 rfl) 1 (v := .int .i64 0) rfl
      have d9 := cellAt (S3.box (b := b + 1 + 1 + 1 + 1 + 1) 4 rfl) 2 (v := .int .i64 0) rfl
      have d10 := cellAt (S3.box (b := b + 1 + 1 + 1 + 1 + 1) 4 rfl) 3 (v := .string ⟨#[]⟩) rfl
      have d11 := cellAt (S3.box (b := b + 1 + 1 + 1 + 1 + 1) 4 rfl) 4 (v := .bool false) rfl
      have T0 := S3.setBox (cs := #[.bool false]) (t := 4) 5 rfl 0 (.bool fd)
      have T1 := T0.setBox (cs := #[.string ⟨#[]⟩, .int .i64 0, .int .i64 0, .string ⟨#[]⟩, .bool false]) (t := 35) 4 rfl 0 (.string ⟨#[]⟩)
      have T2 := T1.setBox (cs := #[.string ⟨#[]⟩, .int .i64 0, .int .i64 0, .string ⟨#[]⟩, .bool false]) (t := 35) 4 rfl 1 (.int .i64 0)
      have T3 := T2.setBox (cs := #[.string ⟨#[]⟩, .int .i64 0, .int .i64 0, .string ⟨#[]⟩, .bool false]) (t := 35) 4 rfl 2 (.int .i64 0)
      have T4 := T3.setBox (cs := #[.string ⟨#[]⟩, .int .i64 0, .int .i64 0, .string ⟨#[]⟩, .bool false]) (t := 35) 4 rfl 3 (.string ⟨#[]⟩)
      have T5 := T4.setBox (cs := #[.string ⟨#[]⟩, .int .i64 0, .int .i64 0, .string ⟨#[]⟩, .bool false]) (t := 35) 4 rfl 4 (.bool false)
      replace T5 : Sep w (boxR (c1 + 2) (.deferred (some [])) :: mateR b q p h boot v cl o hit fd fd ⟨#[]⟩ (RE ++ orderF c1 (c1 + 1) cl h H)) _ := T5
      replace T5 := Lib.hid T5; clear S3 T0 T1 T2 T3 T4 S2 IT hB
      gi_wp2_with fail
      refine ⟨by simp, .inl ⟨_, _, rfl, run_takeDeferred (T5.out.box 0 rfl), ?_⟩⟩
      have S5 := T5.out.putObj 0 rfl (.deferred none)
      replace S5 : Sep w (boxR (c1 + 2) (.deferred none) :: mateR b q p h boot v cl o hit fd fd ⟨#[]⟩ (RE ++ orderF c1 (c1 + 1) cl h H)) _ := S5
      have r0 := cellAt (S5.box (b := b + 1 + 1 + 1 + 1) 5 rfl) 0 (v := .bool fd) rfl
      have r1 := cellAt (S5.box (b := b + 1 + 1 + 1 + 1 + 1) 4 rfl) 0 (v := .string ⟨#[]⟩) rfl
      have r2 := cellAt (S5.box (b := b + 1 + 1 + 1 + 1 + 1) 4 rfl) 1 (v := .int .i64 0) rfl
      have r3 := cellAt (S5.box (b := b + 1 + 1 + 1 + 1 + 1) 4 rfl) 2 (v := .int .i64 0) rfl
      have r4 := cellAt (S5.box (b := b + 1 + 1 + 1 + 1 + 1) 4 rfl) 3 (v := .string ⟨#[]⟩) rfl
      have r5 := cellAt (S5.box (b := b + 1 + 1 + 1 + 1 + 1) 4 rfl) 4 (v := .bool false) rfl
      rw [HM.out]
      refine ⟨.tuple #[.bool fd, .agg #[.string ⟨#[]⟩, .int .i64 0, .int .i64 0, .string ⟨#[]⟩, .bool false]], by simp [results, Tryd.results19, go_sem, r0, r1, r2, r3, r4, r5], by rw [HFD.out]; rfl, ?_⟩
      refine HP.out _ (S5.sub (.cons _ (.cons _ (.cons _ (.cons _ (.cons _ (.cons _ (.cons _ (.cons _ (.cons _ (.cons _ ?_)))))))))))
      exact (List.Sublist.refl RE).append (.cons _ (.cons _ (List.Sublist.refl _)))
    case stop =>
      rintro _ k _ W3 hk ⟨rfl, hm, rfl⟩ S3
      have HM := Lib.hid hm
      replace S3 := Lib.hid S3; clear S2 IT hB hm
      gi_wp2_with fail
      refine ⟨by simp, .inl ⟨_, _, rfl, run_takeDeferred (S3.out.box 0 rfl), ?_⟩⟩
      have S5 := S3.out.putObj 0 rfl (.deferred none)
      have r0 := cellAt (S5.box (b := b + 1 + 1 + 1 + 1) 2 rfl) 0 (v := .bool false) rfl
      have r1 := cellAt (S5.box (b := b + 1 + 1 + 1 + 1 + 1) 1 rfl) 0 (v := .string typeE) rfl
      have r2 := cellAt (S5.box (b := b + 1 + 1 + 1 + 1 + 1) 1 rfl) 1 (v := .int .i64 0) rfl
      have r3 := cellAt (S5.box (b := b + 1 + 1 + 1 + 1 + 1) 1 rfl) 2 (v := .int .i64 0) rfl
      have r4 := cellAt (S5.box (b := b + 1 + 1 + 1 + 1 + 1) 1 rfl) 3 (v := .string ⟨#[]⟩) rfl
      have r5 := cellAt (S5.box (b := b + 1 + 1 + 1 + 1 + 1) 1 rfl) 4 (v := .bool false) rfl
      rw [HM.out]
      refine ⟨.tuple #[.bool false, .agg #[.string typeE, .int .i64 0, .int .i64 0, .string ⟨#[]⟩, .bool false]], by simp [results, Tryd.results19, go_sem, r0, r1, r2, r3, r4, r5], rfl, ?_⟩
      exact HP.out _ S5.tail.tail.tail
end
end Go.Proofs.YtobcnffjfclolaaDoor
/- ch 15: an instance of the table's class (plain), and a name of the row. -/
namespace Go.Proofs.YtobcnffjfclolaaDoor
set_option linter.unusedSimpArgs false
open Go.RowKit
set_option linter.unusedVariables false
section
variable {w W : World} {Rs : List Res} {H : HeapM} {N : Nat} {L : Int}
theorem strs_cell (T : Sep w Rs W) {g c : Nat} (j : Nat) (hj : Rs[j]? = some (strsR (.slice (some ⟨g, 0, none⟩) 17 c) (takeN 17))) {i : Nat} (hi : i < 17) : W.cell? ⟨g, i, none⟩ = some (.string (nameF i)) := by
  have hx : (takeN 17)[i]? = some (nameF i) := by unfold takeN; rw [List.getElem?_map, List.getElem?_range hi]; rfl
  have := (T.row j hj).cell (f := strCell) (m := 1) (fun _ => rfl) rfl hx (j := 0) (u := .string (nameF i)) rfl
  simpa using this
structure InstOf (H : HeapM) (L : Int) (i : Nat) (l : List V) (N : Nat) (H' : HeapM) : Prop where
  made : MadeIn H (refN (L + 2 + (i : Int))) l N H'
  boot : BootIn H' L
  cls : H.isClass (refN (L + 2 + (i : Int))) = true
  of : ∀ hn : okI (H.last + 2), H'.ofM (V.ref (H.last + 2) hn) = some (refN (L + 2 + (i : Int)))
  is : ∀ (hb : okI (L + 19)) (hn : okI (H.last + 2)), H'.isF (V.ref (L + 19) hb) (V.ref (H.last + 2) hn) = true
  mt : ∀ (hb : okI (L + 19)) (hn : okI (H.last + 2)) (k : Nat), k < 17 → H'.matchF (V.ref (L + 19) hb) (V.ref (H.last + 2) hn) (refN (L + 2 + (k : Int))) = some (decide (k ∈ i :: ancF i))
theorem zero_anc : ∀ i, i < 17 → (0 ∈ i :: ancF i) := by decide +kernel
theorem inst_of (F : H.Fit N) (C : H.Cls) (B : BootIn H L) (hL : 0 ≤ L ∧ L ≤ 1000000) (hl : 0 ≤ H.last ∧ H.last ≤ 2000000) {i : Nat} (hi : i < 17) (l : List V) :
    InstOf H L i l N (H.madeF (refN (L + 2 + (i : Int))) l) := by
  have hni : okI (L + 2 + (i : Int)) := okI_of ⟨by omega, by omega⟩
  have M := madeF_in F C hl (refN (L + 2 + (i : Int))) l
  have B2 := M.olds.boot B
  have hc : H.isClass (refN (L + 2 + (i : Int))) = true := by rw [refN_ok hni]; exact B.isClass hi hni
  have hof : ∀ hn : okI (H.last + 2), (H.madeF (refN (L + 2 + (i : Int))) l).ofM (V.ref (H.last + 2) hn) = some (refN (L + 2 + (i : Int))) := fun hn => by
    rw [M.ofV hn hc, refN_ok hni]; rfl
  have his : ∀ (hb : okI (L + 19)) (j : Nat), j < 17 → (H.madeF (refN (L + 2 + (i : Int))) l).isClsF (V.ref (L + 19) hb) (refN (L + 2 + (j : Int))) = true := fun hb j hj => by
    rw [B2.isCls hL hb]
    have h := B2.sub M.cls hL hj (k := 0) (by omega)
    have e : L + 2 + ((0 : Nat) : Int) = L + 2 := by omega
    rw [e] at h
    rw [h, decide_eq_true_eq]
    exact zero_anc j hj
  have hif : ∀ (hb : okI (L + 19)) (hn : okI (H.last + 2)), (H.madeF (refN (L + 2 + (i : Int))) l).isF (V.ref (L + 19) hb) (V.ref (H.last + 2) hn) = true := fun hb hn => by
    unfold HeapM.isF
    rw [hof hn]
    exact his hb i hi
  refine ⟨M, B2, hc, hof, hif, fun hb hn k hk => ?_⟩
  have hnk : okI (L + 2 + (k : Int)) := okI_of ⟨by omega, by omega⟩
  have hck : (H.madeF (refN (L + 2 + (i : Int))) l).isClass (refN (L + 2 + (k : Int))) = true := by rw [refN_ok hnk]; exact B2.isClass hk hnk
  unfold HeapM.matchF HeapM.hitF
  rw [cands_cls hck, hif hb hn, hof hn]
  have h1 := his hb k hk
  have h2 := B2.sub M.cls hL hi hk
  rw [if_pos (by simp [h1])]
  simp only [List.any_cons, List.any_nil, Bool.or_false, Option.getD_some, Bool.true_and, h2]
end
end Go.Proofs.YtobcnffjfclolaaDoor
/- ch 15: the document's examples. -/
namespace Go.Proofs.YtobcnffjfclolaaDoor
set_option linter.unusedSimpArgs false
open Go.RowKit
set_option linter.unusedVariables false
section
variable {w W : World} {Rs : List Res} {h : Nat} {H : HeapM}
theorem kr_boot (S : Sep w Rs W) (hG : GlobF w) (i : Nat) (hi : Rs[i]? = some (heapR h ⟨[], 0⟩)) :
    Calls Tryd.prog 15 #[.pointer (some ⟨h, 0, none⟩)] W fun e W' => e = .returned (.agg #[.int .i64 4, .int .i64 19, .string ⟨#[]⟩]) ∧ Sep w (Rs.set i (heapR h B0F)) W' :=
  boot_ok S hG i hi fit_empty cls_empty (by omega)
theorem kr_get (S : Sep w Rs W) (i : Nat) (hi : Rs[i]? = some (heapR h H)) (v k g : V) (hg : H.get v k = some g) :
    Calls Tryd.prog 17 #[.pointer (some ⟨h, 0, none⟩), .agg #[.int .i64 v.kind, .int .i64 v.n, .string v.s], .agg #[.int .i64 k.kind, .int .i64 k.n, .string k.s]] W fun e W' => e = .returned (.tuple #[.agg #[.int .i64 g.kind, .int .i64 g.n, .string g.s], .bool true]) ∧ Sep w Rs W' := by
  have := S.get_ i hi v k
  rw [hg] at this
  exact this.mono fun e W' ⟨e1, e2, _⟩ => ⟨e1, e2⟩
theorem kr_make1 (S : Sep w Rs W) (i : Nat) (hi : Rs[i]? = some (heapR h B0F)) :
    Calls Tryd.prog 16 #[.pointer (some ⟨h, 0, none⟩), .agg #[.int .i64 4, .int .i64 19, .string ⟨#[]⟩], .agg #[.string ⟨#[75, 101, 121, 69, 114, 114, 111, 114]⟩, .int .i64 3, .int .i64 0, .string ⟨#[107]⟩, .bool true]] W fun e W' => e = .returned (.agg #[.int .i64 4, .int .i64 21, .string ⟨#[]⟩]) ∧ Sep w (Rs.set i (heapR h B1F)) W' := by
  have := fmake_true S i hi b0.1 (by omega) r19F (nameF 3) (nameF_le 3) oneK r5F fc1
  rw [b0.2.2.2] at this
  exact this
theorem kr_make2 (S : Sep w Rs W) (i : Nat) (hi : Rs[i]? = some (heapR h B1F)) :
    Calls Tryd.prog 16 #[.pointer (some ⟨h, 0, none⟩), .agg #[.int .i64 4, .int .i64 19, .string ⟨#[]⟩], .agg #[.string ⟨#[76, 111, 111, 107, 117, 112, 69, 114, 114, 111, 114]⟩, .int .i64 0, .int .i64 0, .string ⟨#[]⟩, .bool false]] W fun e W' => e = .returned (.agg #[.int .i64 4, .int .i64 23, .string ⟨#[]⟩]) ∧ Sep w (Rs.set i (heapR h B2F)) W' := by
  have := fmake_false S i hi b1.fit (by simp) r19F (nameF 1) (nameF_le 1) V.zero r3F fc2
  rw [l1] at this
  exact this
theorem kr_make3 (S : Sep w Rs W) (i : Nat) (hi : Rs[i]? = some (heapR h B2F)) :
    Calls Tryd.prog 16 #[.pointer (some ⟨h, 0, none⟩), .agg #[.int .i64 4, .int .i64 19, .string ⟨#[]⟩], .agg #[.string ⟨#[110, 111]⟩, .int .i64 0, .int .i64 0, .string ⟨#[]⟩, .bool false]] W fun e W' => e = .returned (.agg #[.int .i64 0, .int .i64 0, .string ⟨#[]⟩]) ∧ Sep w Rs W' :=
  fmake_no S i hi b2.fit (by simp) r19F noS noS_le V.zero false cn
theorem kr_match (S : Sep w Rs W) (i : Nat) (hi : Rs[i]? = some (heapR h B2F)) (v cl : V) (m : Option Bool) (hm : B2F.matchF r19F v cl = m) (r : Bool) (s : ByteArray) (hr : m.getD false = r) (hs : excM m = s) :
    Calls Tryd.prog 19 #[.pointer (some ⟨h, 0, none⟩), .agg #[.int .i64 4, .int .i64 19, .string ⟨#[]⟩], .agg #[.int .i64 v.kind, .int .i64 v.n, .string v.s], .agg #[.int .i64 cl.kind, .int .i64 cl.n, .string cl.s]] W fun e W' => e = .returned (.tuple #[.bool r, .agg #[.string s, .int .i64 0, .int .i64 0, .string ⟨#[]⟩, .bool false]]) ∧ Sep w Rs W' := by
  have := matches_ok S i hi b2.fit.G (by simp) r19F v cl
  rw [hm] at this
  subst hr hs
  exact this
theorem kr_kind (S : Sep w Rs W) (i : Nat) (hi : Rs[i]? = some (heapR h H)) (v : V) (k : Int) (hk : H.kind v = k) :
    Calls Tryd.prog 26 #[.pointer (some ⟨h, 0, none⟩), .agg #[.int .i64 v.kind, .int .i64 v.n, .string v.s]] W fun e W' => e = .returned (.int .i64 k) ∧ Sep w Rs W' :=
  (S.kind i hi v).mono fun e W' ⟨e1, e2, _⟩ => ⟨by rw [e1, hk], e2⟩
theorem kr_name (S : Sep w Rs W) (i : Nat) (hi : Rs[i]? = some (heapR h H)) (v : V) (k : ByteArray) (hk : H.name v = k) :
    Calls Tryd.prog 34 #[.pointer (some ⟨h, 0, none⟩), .agg #[.int .i64 v.kind, .int .i64 v.n, .string v.s]] W fun e W' => e = .returned (.string k) ∧ Sep w Rs W' :=
  (S.name i hi v).mono fun e W' ⟨e1, e2, _⟩ => ⟨by rw [e1, hk], e2⟩
theorem kr_items (S : Sep w Rs W) (i : Nat) (hi : Rs[i]? = some (heapR h H)) {N : Nat} (G : H.Good N) (hN : N ≤ 4000000) (v : V) (l : List V) (hl : H.items v = l) :
    Calls Tryd.prog 33 #[.pointer (some ⟨h, 0, none⟩), .agg #[.int .i64 v.kind, .int .i64 v.n, .string v.s]] W fun e W' => ∃ a c, e = .returned (.slice a l.length c) ∧ Sep w (valsR (.slice a l.length c) l :: Rs) W' := by
  refine (S.items i hi G hN v).mono fun e W' ⟨sv, h1, h2, _⟩ => ?_
  rw [hl] at h2
  obtain ⟨a, c, hsv⟩ := (h2.row 0 rfl).form
  rw [hsv] at h1 h2
  exact ⟨a, c, h1, h2⟩
theorem kr_is (S : Sep w Rs W) (i : Nat) (hi : Rs[i]? = some (heapR h B2F)) (v : V) (k : Bool) (hk : B2F.isF r19F v = k) :
    Calls Tryd.prog 29 #[.pointer (some ⟨h, 0, none⟩), .agg #[.int .i64 4, .int .i64 19, .string ⟨#[]⟩], .agg #[.int .i64 v.kind, .int .i64 v.n, .string v.s]] W fun e W' => e = .returned (.bool k) ∧ Sep w Rs W' := by
  have := fis_ok S i hi b2.fit.G (by simp) r19F v
  rw [hk] at this
  exact this
theorem kr_iscls (S : Sep w Rs W) (i : Nat) (hi : Rs[i]? = some (heapR h B2F)) (v : V) (k : Bool) (hk : B2F.isClsF r19F v = k) :
    Calls Tryd.prog 28 #[.pointer (some ⟨h, 0, none⟩), .agg #[.int .i64 4, .int .i64 19, .string ⟨#[]⟩], .agg #[.int .i64 v.kind, .int .i64 v.n, .string v.s]] W fun e W' => e = .returned (.bool k) ∧ Sep w Rs W' := by
  have := fiscls_ok S i hi b2.fit.G (by simp) r19F v
  rw [hk] at this
  exact this
theorem kr_base (S : Sep w Rs W) (hG : GlobF w) :
    Calls Tryd.prog 12 #[.string ⟨#[75, 101, 121, 69, 114, 114, 111, 114]⟩] W fun e W' => e = .returned (.string ⟨#[76, 111, 111, 107, 117, 112, 69, 114, 114, 111, 114]⟩) ∧ Sep w Rs W' := by
  have := fbase_ok S hG (nameF 3)
  rw [baseS_some (k := 3) (by omega) rfl] at this
  exact this
set_option maxRecDepth 100000 in
set_option maxHeartbeats 12800000 in
theorem raised_ok (S : Sep w Rs W) (hG : GlobF w) : Calls Tryd.prog 8 #[] W fun e W' => e = .returned (.bool true) ∧ Sep w Rs W' := by
  have HGL := Lib.hid hG
  clear hG
  go_enter Tryd.func8, Tryd.ntmps8
  have M := Lib.hid S.new
  clear S
  go_wp2_with fail
  refine M.out.mono ?_
  rintro e w1 ⟨h, rfl, S, -⟩
  clear M
  replace S : Sep w (heapR h ⟨[], 0⟩ :: Rs) _ := S
  have M := Lib.hid (kr_boot S HGL.out 0 rfl)
  clear S
  go_wp2_with fail
  refine M.out.mono ?_
  rintro e w2 ⟨rfl, S⟩
  clear M
  replace S : Sep w (heapR h B0F :: Rs) _ := S
  obtain ⟨bt, hbt⟩ : ∃ gx_, (w2.heap.size) = gx_ := ⟨_, rfl⟩
  replace S := (S.alloc (.cells #[.int .i64 4, .int .i64 19, .string ⟨#[]⟩] 31))
  simp only [World.size_alloc, hbt] at S
  replace S : Sep w (boxR bt (.cells #[.int .i64 4, .int .i64 19, .string ⟨#[]⟩] 31) :: heapR h B0F :: Rs) _ := S
  obtain ⟨baseA, hbaseA⟩ : ∃ base, base = boxR bt (.cells #[.int .i64 4, .int .i64 19, .string ⟨#[]⟩] 31) :: heapR h B0F :: Rs := ⟨_, rfl⟩
  have HbaseA := Lib.hid hbaseA
  have KbaseA : Hid (∀ W (Q : List Res), Sep w (Q ++ baseA) W → W.cell? ⟨bt, 0, none⟩ = some (.int .i64 4) ∧ W.cell? ⟨bt, 1, none⟩ = some (.int .i64 19) ∧ W.cell? ⟨bt, 2, none⟩ = some (.string ⟨#[]⟩)) := Lib.hid fun W Q T => by
    rw [hbaseA] at T
    have i0 := T.box (b := bt) (o := .cells #[.int .i64 4, .int .i64 19, .string ⟨#[]⟩] 31) (Q.length + 0) (by rw [List.getElem?_append_right (by omega), Nat.add_sub_cancel_left]; rfl)
    exact ⟨cellAt i0 0 rfl, cellAt i0 1 rfl, cellAt i0 2 rfl⟩
  have KY : Hid (∀ W (Q : List Res), Sep w (Q ++ baseA) W → Calls Tryd.prog 18 #[.string ⟨#[76, 111, 111, 107, 117, 112, 69, 114, 114, 111, 114]⟩] W fun e W' => e = .returned (.agg #[.int .i64 3, .int .i64 0, .string ⟨#[76, 111, 111, 107, 117, 112, 69, 114, 114, 111, 114]⟩]) ∧ Sep w (Q ++ baseA) W') := Lib.hid fun W Q T => by
    exact (ltext_ok W _).mono fun e W' ⟨e1, e2⟩ => ⟨e1, T.later e2⟩
  have KG : Hid (∀ W (Q : List Res), Sep w (Q ++ baseA) W → Calls Tryd.prog 17 #[.pointer (some ⟨h, 0, none⟩), .agg #[.int .i64 4, .int .i64 19, .string ⟨#[]⟩], .agg #[.int .i64 3, .int .i64 0, .string ⟨#[76, 111, 111, 107, 117, 112, 69, 114, 114, 111, 114]⟩]] W fun e W' => e = .returned (.tuple #[.agg #[.int .i64 4, .int .i64 3, .string ⟨#[]⟩], .bool true]) ∧ Sep w (Q ++ baseA) W') := Lib.hid fun W Q T => by
    rw [HbaseA.out] at T ⊢
    exact kr_get T (Q.length + 1) (by rw [List.getElem?_append_right (by omega), Nat.add_sub_cancel_left]; rfl) _ _ _ fg1
  replace S : Sep w (baseA) (w2.alloc (.cells #[.int .i64 4, .int .i64 19, .string ⟨#[]⟩] 31)) := by rw [hbaseA]; exact S
  replace S := Lib.hid S
  clear hbaseA
  go_upto_region 5 with fail
  try simp only [hbt]
  obtain ⟨Wd5, hW⟩ : ∃ gx_, ((w2.alloc (.cells #[.int .i64 4, .int .i64 19, .string ⟨#[]⟩] 31))) = gx_ := ⟨_, rfl⟩
  rw [hW] at S ⊢
  clear hW hbt
  go_cut [3, 4] (fun s3 s4 wx => ∃ qx, s3 = .pointer (some ⟨qx, 0, none⟩) ∧ s4 = .bool true ∧ Sep w (boxR qx (.cells #[.int .i64 4, .int .i64 3, .string ⟨#[]⟩] 31) :: baseA) wx)
  case first =>
    have T0 : Sep w ([] ++ baseA) _ := S.out.drew
    clear S
    as_aux_lemma =>
      refine wp_region_held_drew (S := fun W => W.cell? ⟨bt, 0, none⟩ = some (.int .i64 4) ∧ W.cell? ⟨bt, 1, none⟩ = some (.int .i64 19) ∧ W.cell? ⟨bt, 2, none⟩ = some (.string ⟨#[]⟩)) (by kernel_rfl) (KbaseA.out _ [] T0) (fun hH => ?_); refine takeT 0 hH (hy := .inl ⟨by rfl, by (intro w hSw; try obtain ⟨u0, u1, u2⟩ := hSw); (go_simp; try rfl)⟩) (h := ?_); simp only [Act.put, List.setIfInBounds_toArray, List.set_cons_zero, List.set_cons_succ]; refine takeT 1 hH (hy := .inl ⟨by rfl, by (intro w hSw; try obtain ⟨u0, u1, u2⟩ := hSw); (go_simp; try rfl)⟩) (h := ?_); simp only [Act.put, List.setIfInBounds_toArray, List.set_cons_zero, List.set_cons_succ]; refine readyT [2, 7] ?_; refine consT (fun K hK => ?_) (consT (fun K hK => ?_) AllReadyH.nil)
      · go_simp
        go_wp2_with (go_at_call 18; refine (KY.out _ [] T0).mono ?_; rintro e w1 ⟨rfl, T1⟩); clear hH; refine hK.out _ _ (KbaseA.out _ [] T1) (fun hH => ?_); clear hK K; refine readyT [3, 7] ?_; refine consT (fun K hK => ?_) (consT (fun K hK => ?_) AllReadyH.nil)
        · go_simp
          go_wp2_with (go_at_call 17; refine (KG.out _ [] T1).mono ?_; rintro e w2 ⟨rfl, T2⟩); clear hH; refine hK.out _ _ (KbaseA.out _ [] T2) (fun hH => ?_); clear hK K; refine takeT 4 hH (hy := .inl ⟨by rfl, by (intro w hSw; try obtain ⟨u0, u1, u2⟩ := hSw); (go_simp; try rfl)⟩) (h := ?_); simp only [Act.put, List.setIfInBounds_toArray, List.set_cons_zero, List.set_cons_succ]; refine takeT 5 hH (hy := .inl ⟨by rfl, by (intro w hSw; try obtain ⟨u0, u1, u2⟩ := hSw); (go_simp; try rfl)⟩) (h := ?_); simp only [Act.put, List.setIfInBounds_toArray, List.set_cons_zero, List.set_cons_succ]; refine takeT 6 hH (hy := .inl ⟨by rfl, by (intro w hSw; try obtain ⟨u0, u1, u2⟩ := hSw); (go_simp; try rfl)⟩) (h := ?_); simp only [Act.put, List.setIfInBounds_toArray, List.set_cons_zero, List.set_cons_succ]; refine readyT [7] ?_; refine consT (fun K hK => ?_) AllReadyH.nil; go_simp
          have T3 : Sep w ([boxR _ (.cells #[.int .i64 0, .int .i64 0, .string ⟨#[]⟩] 31)] ++ baseA) _ := Sep.alloc T2 (.cells #[.int .i64 0, .int .i64 0, .string ⟨#[]⟩] 31); (try simp only [size_drew, World.size_alloc] at T3); clear hH; refine hK.out _ _ (KbaseA.out _ [_] T3) (fun hH => ?_); clear hK K; refine readyT [8] ?_; refine consT (fun K hK => ?_) AllReadyH.nil
          have hz := T3.box 0 rfl; have z0 := cellAt hz 0 (v := .int .i64 0) rfl; have z1 := cellAt hz 1 (v := .int .i64 0) rfl; have z2 := cellAt hz 2 (v := .string ⟨#[]⟩) rfl; have z3 := frozenAt hz 0; have z4 := frozenAt hz 1; have z5 := frozenAt hz 2
          (try simp only [World.cell?_drew, World.frozen?_drew] at z0 z1 z2 z3 z4 z5); go_simp; clear hz z0 z1 z2 z3 z4 z5; clear hH
          first | (have T4 : Sep w ([boxR _ (.cells #[.int .i64 4, .int .i64 3, .string ⟨#[]⟩] 31)] ++ baseA) _ := (Sep.alloc T2 (.cells #[.int .i64 4, .int .i64 3, .string ⟨#[]⟩] 31)); (try simp only [size_drew, World.size_alloc] at T4); refine hK.out _ _ (KbaseA.out _ [_] T4) (fun hH => ?_)) | (have T4 : Sep w ([boxR _ (.cells #[.int .i64 4, .int .i64 3, .string ⟨#[]⟩] 31)] ++ baseA) _ := (Sep.setBox (cs := #[.int .i64 4, .int .i64 3, .string ⟨#[]⟩]) (t := 31) (Sep.setBox (cs := #[.int .i64 4, .int .i64 0, .string ⟨#[]⟩]) (t := 31) (Sep.setBox (cs := #[.int .i64 0, .int .i64 0, .string ⟨#[]⟩]) (t := 31) T3 0 rfl 0 (.int .i64 4)) 0 rfl 1 (.int .i64 3)) 0 rfl 2 (.string ⟨#[]⟩)); (try simp only [size_drew, World.size_alloc] at T4); refine hK.out _ _ (KbaseA.out _ [_] T4) (fun hH => ?_))
          clear hK K; refine takeT 9 hH (hy := .inl ⟨by rfl, by (intro w hSw; try obtain ⟨u0, u1, u2⟩ := hSw); (go_simp; try rfl)⟩) (h := ?_); simp only [Act.put, List.setIfInBounds_toArray, List.set_cons_zero, List.set_cons_succ]
          refine wpAnyH_done (by kernel_rfl) ?_ _
          as_aux_lemma =>
            go_wp2_with fail
            go_meet
            exact ⟨_, rfl, rfl, T4⟩
        · go_simp
          have T5 : Sep w ([boxR _ (.cells #[.int .i64 0, .int .i64 0, .string ⟨#[]⟩] 31)] ++ baseA) _ := Sep.alloc T1 (.cells #[.int .i64 0, .int .i64 0, .string ⟨#[]⟩] 31); (try simp only [size_drew, World.size_alloc] at T5); clear hH; refine hK.out _ _ (KbaseA.out _ [_] T5) (fun hH => ?_); clear hK K; refine readyT [3] ?_; refine consT (fun K hK => ?_) AllReadyH.nil; go_simp
          go_wp2_with (go_at_call 17; refine (KG.out _ [_] T5).mono ?_; rintro e w6 ⟨rfl, T6⟩); clear hH; refine hK.out _ _ (KbaseA.out _ [_] T6) (fun hH => ?_); clear hK K; refine takeT 4 hH (hy := .inl ⟨by rfl, by (intro w hSw; try obtain ⟨u0, u1, u2⟩ := hSw); (go_simp; try rfl)⟩) (h := ?_); simp only [Act.put, List.setIfInBounds_toArray, List.set_cons_zero, List.set_cons_succ]; refine takeT 5 hH (hy := .inl ⟨by rfl, by (intro w hSw; try obtain ⟨u0, u1, u2⟩ := hSw); (go_simp; try rfl)⟩) (h := ?_); simp only [Act.put, List.setIfInBounds_toArray, List.set_cons_zero, List.set_cons_succ]; refine takeT 6 hH (hy := .inl ⟨by rfl, by (intro w hSw; try obtain ⟨u0, u1, u2⟩ := hSw); (go_simp; try rfl)⟩) (h := ?_); simp only [Act.put, List.setIfInBounds_toArray, List.set_cons_zero, List.set_cons_succ]; refine readyT [8] ?_; refine consT (fun K hK => ?_) AllReadyH.nil
          have hz := T6.box 0 rfl; have z0 := cellAt hz 0 (v := .int .i64 0) rfl; have z1 := cellAt hz 1 (v := .int .i64 0) rfl; have z2 := cellAt hz 2 (v := .string ⟨#[]⟩) rfl; have z3 := frozenAt hz 0; have z4 := frozenAt hz 1; have z5 := frozenAt hz 2
          (try simp only [World.cell?_drew, World.frozen?_drew] at z0 z1 z2 z3 z4 z5); go_simp; clear hz z0 z1 z2 z3 z4 z5; clear hH
          have T7 : Sep w ([boxR _ (.cells #[.int .i64 4, .int .i64 3, .string ⟨#[]⟩] 31)] ++ baseA) _ := (Sep.setBox (cs := #[.int .i64 4, .int .i64 3, .string ⟨#[]⟩]) (t := 31) (Sep.setBox (cs := #[.int .i64 4, .int .i64 0, .string ⟨#[]⟩]) (t := 31) (Sep.setBox (cs := #[.int .i64 0, .int .i64 0, .string ⟨#[]⟩]) (t := 31) T6 0 rfl 0 (.int .i64 4)) 0 rfl 1 (.int .i64 3)) 0 rfl 2 (.string ⟨#[]⟩)); (try simp only [size_drew, World.size_alloc] at T7)
          refine hK.out _ _ (KbaseA.out _ [_] T7) (fun hH => ?_); clear hK K; refine takeT 9 hH (hy := .inl ⟨by rfl, by (intro w hSw; try obtain ⟨u0, u1, u2⟩ := hSw); (go_simp; try rfl)⟩) (h := ?_); simp only [Act.put, List.setIfInBounds_toArray, List.set_cons_zero, List.set_cons_succ]
          refine wpAnyH_done (by kernel_rfl) ?_ _
          as_aux_lemma =>
            go_wp2_with fail
            go_meet
            exact ⟨_, rfl, rfl, T7⟩
      · go_simp
        have T8 : Sep w ([boxR _ (.cells #[.int .i64 0, .int .i64 0, .string ⟨#[]⟩] 31)] ++ baseA) _ := Sep.alloc T0 (.cells #[.int .i64 0, .int .i64 0, .string ⟨#[]⟩] 31); (try simp only [size_drew, World.size_alloc] at T8); clear hH; refine hK.out _ _ (KbaseA.out _ [_] T8) (fun hH => ?_); clear hK K; refine readyT [2] ?_; refine consT (fun K hK => ?_) AllReadyH.nil; go_simp
        go_wp2_with (go_at_call 18; refine (KY.out _ [_] T8).mono ?_; rintro e w9 ⟨rfl, T9⟩); clear hH; refine hK.out _ _ (KbaseA.out _ [_] T9) (fun hH => ?_); clear hK K; refine readyT [3] ?_; refine consT (fun K hK => ?_) AllReadyH.nil; go_simp
        go_wp2_with (go_at_call 17; refine (KG.out _ [_] T9).mono ?_; rintro e w10 ⟨rfl, T10⟩); clear hH; refine hK.out _ _ (KbaseA.out _ [_] T10) (fun hH => ?_); clear hK K; refine takeT 4 hH (hy := .inl ⟨by rfl, by (intro w hSw; try obtain ⟨u0, u1, u2⟩ := hSw); (go_simp; try rfl)⟩) (h := ?_); simp only [Act.put, List.setIfInBounds_toArray, List.set_cons_zero, List.set_cons_succ]; refine takeT 5 hH (hy := .inl ⟨by rfl, by (intro w hSw; try obtain ⟨u0, u1, u2⟩ := hSw); (go_simp; try rfl)⟩) (h := ?_); simp only [Act.put, List.setIfInBounds_toArray, List.set_cons_zero, List.set_cons_succ]; refine takeT 6 hH (hy := .inl ⟨by rfl, by (intro w hSw; try obtain ⟨u0, u1, u2⟩ := hSw); (go_simp; try rfl)⟩) (h := ?_); simp only [Act.put, List.setIfInBounds_toArray, List.set_cons_zero, List.set_cons_succ]; refine readyT [8] ?_; refine consT (fun K hK => ?_) AllReadyH.nil
        have hz := T10.box 0 rfl; have z0 := cellAt hz 0 (v := .int .i64 0) rfl; have z1 := cellAt hz 1 (v := .int .i64 0) rfl; have z2 := cellAt hz 2 (v := .string ⟨#[]⟩) rfl; have z3 := frozenAt hz 0; have z4 := frozenAt hz 1; have z5 := frozenAt hz 2
        (try simp only [World.cell?_drew, World.frozen?_drew] at z0 z1 z2 z3 z4 z5); go_simp; clear hz z0 z1 z2 z3 z4 z5; clear hH
        have T11 : Sep w ([boxR _ (.cells #[.int .i64 4, .int .i64 3, .string ⟨#[]⟩] 31)] ++ baseA) _ := (Sep.setBox (cs := #[.int .i64 4, .int .i64 3, .string ⟨#[]⟩]) (t := 31) (Sep.setBox (cs := #[.int .i64 4, .int .i64 0, .string ⟨#[]⟩]) (t := 31) (Sep.setBox (cs := #[.int .i64 0, .int .i64 0, .string ⟨#[]⟩]) (t := 31) T10 0 rfl 0 (.int .i64 4)) 0 rfl 1 (.int .i64 3)) 0 rfl 2 (.string ⟨#[]⟩)); (try simp only [size_drew, World.size_alloc] at T11)
        refine hK.out _ _ (KbaseA.out _ [_] T11) (fun hH => ?_); clear hK K; refine takeT 9 hH (hy := .inl ⟨by rfl, by (intro w hSw; try obtain ⟨u0, u1, u2⟩ := hSw); (go_simp; try rfl)⟩) (h := ?_); simp only [Act.put, List.setIfInBounds_toArray, List.set_cons_zero, List.set_cons_succ]
        refine wpAnyH_done (by kernel_rfl) ?_ _
        as_aux_lemma =>
          go_wp2_with fail
          go_meet
          exact ⟨_, rfl, rfl, T11⟩
  case rest =>
    obtain ⟨q3, rfl, rfl, S⟩ := hcut
    rw [HbaseA.out] at S
    clear KY KG KbaseA HbaseA
    replace S : Sep w (boxR q3 (.cells #[.int .i64 4, .int .i64 3, .string ⟨#[]⟩] 31) :: boxR bt (.cells #[.int .i64 4, .int .i64 19, .string ⟨#[]⟩] 31) :: heapR h B0F :: Rs) _ := S
    obtain ⟨baseA, hbaseA⟩ : ∃ base, base = boxR q3 (.cells #[.int .i64 4, .int .i64 3, .string ⟨#[]⟩] 31) :: boxR bt (.cells #[.int .i64 4, .int .i64 19, .string ⟨#[]⟩] 31) :: heapR h B0F :: Rs := ⟨_, rfl⟩
    have HbaseA := Lib.hid hbaseA
    have KbaseA : Hid (∀ W (Q : List Res), Sep w (Q ++ baseA) W → W.cell? ⟨bt, 0, none⟩ = some (.int .i64 4) ∧ W.cell? ⟨bt, 1, none⟩ = some (.int .i64 19) ∧ W.cell? ⟨bt, 2, none⟩ = some (.string ⟨#[]⟩)) := Lib.hid fun W Q T => by
      rw [hbaseA] at T
      have i0 := T.box (b := bt) (o := .cells #[.int .i64 4, .int .i64 19, .string ⟨#[]⟩] 31) (Q.length + 1) (by rw [List.getElem?_append_right (by omega), Nat.add_sub_cancel_left]; rfl)
      exact ⟨cellAt i0 0 rfl, cellAt i0 1 rfl, cellAt i0 2 rfl⟩
    have KY : Hid (∀ W (Q : List Res), Sep w (Q ++ baseA) W → Calls Tryd.prog 18 #[.string ⟨#[75, 101, 121, 69, 114, 114, 111, 114]⟩] W fun e W' => e = .returned (.agg #[.int .i64 3, .int .i64 0, .string ⟨#[75, 101, 121, 69, 114, 114, 111, 114]⟩]) ∧ Sep w (Q ++ baseA) W') := Lib.hid fun W Q T => by
      exact (ltext_ok W _).mono fun e W' ⟨e1, e2⟩ => ⟨e1, T.later e2⟩
    have KG : Hid (∀ W (Q : List Res), Sep w (Q ++ baseA) W → Calls Tryd.prog 17 #[.pointer (some ⟨h, 0, none⟩), .agg #[.int .i64 4, .int .i64 19, .string ⟨#[]⟩], .agg #[.int .i64 3, .int .i64 0, .string ⟨#[75, 101, 121, 69, 114, 114, 111, 114]⟩]] W fun e W' => e = .returned (.tuple #[.agg #[.int .i64 4, .int .i64 5, .string ⟨#[]⟩], .bool true]) ∧ Sep w (Q ++ baseA) W') := Lib.hid fun W Q T => by
      rw [HbaseA.out] at T ⊢
      exact kr_get T (Q.length + 2) (by rw [List.getElem?_append_right (by omega), Nat.add_sub_cancel_left]; rfl) _ _ _ fg2
    replace S : Sep w (baseA) wc := by rw [hbaseA]; exact S
    replace S := Lib.hid S
    clear hbaseA
    go_upto_region 6 with fail
    go_cut [5, 6] (fun s5 s6 wx => ∃ qx, s5 = .pointer (some ⟨qx, 0, none⟩) ∧ s6 = .bool true ∧ Sep w (boxR qx (.cells #[.int .i64 4, .int .i64 5, .string ⟨#[]⟩] 31) :: baseA) wx)
    case first =>
      have T0 : Sep w ([] ++ baseA) _ := S.out.drew; clear S
      as_aux_lemma =>
        refine wp_region_held_drew (S := fun W => W.cell? ⟨bt, 0, none⟩ = some (.int .i64 4) ∧ W.cell? ⟨bt, 1, none⟩ = some (.int .i64 19) ∧ W.cell? ⟨bt, 2, none⟩ = some (.string ⟨#[]⟩)) (by kernel_rfl) (KbaseA.out _ [] T0) (fun hH => ?_); refine takeT 0 hH (hy := .inl ⟨by rfl, by (intro w hSw; try obtain ⟨u0, u1, u2⟩ := hSw); (go_simp; try rfl)⟩) (h := ?_); simp only [Act.put, List.setIfInBounds_toArray, List.set_cons_zero, List.set_cons_succ]; refine takeT 1 hH (hy := .inl ⟨by rfl, by (intro w hSw; try obtain ⟨u0, u1, u2⟩ := hSw); (go_simp; try rfl)⟩) (h := ?_); simp only [Act.put, List.setIfInBounds_toArray, List.set_cons_zero, List.set_cons_succ]; refine readyT [2, 7] ?_; refine consT (fun K hK => ?_) (consT (fun K hK => ?_) AllReadyH.nil)
        · go_simp
          go_wp2_with (go_at_call 18; refine (KY.out _ [] T0).mono ?_; rintro e w1 ⟨rfl, T1⟩); clear hH; refine hK.out _ _ (KbaseA.out _ [] T1) (fun hH => ?_); clear hK K; refine readyT [3, 7] ?_; refine consT (fun K hK => ?_) (consT (fun K hK => ?_) AllReadyH.nil)
          · go_simp
            go_wp2_with (go_at_call 17; refine (KG.out _ [] T1).mono ?_; rintro e w2 ⟨rfl, T2⟩); clear hH; refine hK.out _ _ (KbaseA.out _ [] T2) (fun hH => ?_); clear hK K; refine takeT 4 hH (hy := .inl ⟨by rfl, by (intro w hSw; try obtain ⟨u0, u1, u2⟩ := hSw); (go_simp; try rfl)⟩) (h := ?_); simp only [Act.put, List.setIfInBounds_toArray, List.set_cons_zero, List.set_cons_succ]; refine takeT 5 hH (hy := .inl ⟨by rfl, by (intro w hSw; try obtain ⟨u0, u1, u2⟩ := hSw); (go_simp; try rfl)⟩) (h := ?_); simp only [Act.put, List.setIfInBounds_toArray, List.set_cons_zero, List.set_cons_succ]; refine takeT 6 hH (hy := .inl ⟨by rfl, by (intro w hSw; try obtain ⟨u0, u1, u2⟩ := hSw); (go_simp; try rfl)⟩) (h := ?_); simp only [Act.put, List.setIfInBounds_toArray, List.set_cons_zero, List.set_cons_succ]; refine readyT [7] ?_; refine consT (fun K hK => ?_) AllReadyH.nil; go_simp
            have T3 : Sep w ([boxR _ (.cells #[.int .i64 0, .int .i64 0, .string ⟨#[]⟩] 31)] ++ baseA) _ := Sep.alloc T2 (.cells #[.int .i64 0, .int .i64 0, .string ⟨#[]⟩] 31); (try simp only [size_drew, World.size_alloc] at T3); clear hH; refine hK.out _ _ (KbaseA.out _ [_] T3) (fun hH => ?_); clear hK K; refine readyT [8] ?_; refine consT (fun K hK => ?_) AllReadyH.nil
            have hz := T3.box 0 rfl; have z0 := cellAt hz 0 (v := .int .i64 0) rfl; have z1 := cellAt hz 1 (v := .int .i64 0) rfl; have z2 := cellAt hz 2 (v := .string ⟨#[]⟩) rfl; have z3 := frozenAt hz 0; have z4 := frozenAt hz 1; have z5 := frozenAt hz 2
            (try simp only [World.cell?_drew, World.frozen?_drew] at z0 z1 z2 z3 z4 z5); go_simp; clear hz z0 z1 z2 z3 z4 z5; clear hH
            first | (have T4 : Sep w ([boxR _ (.cells #[.int .i64 4, .int .i64 5, .string ⟨#[]⟩] 31)] ++ baseA) _ := (Sep.alloc T2 (.cells #[.int .i64 4, .int .i64 5, .string ⟨#[]⟩] 31)); (try simp only [size_drew, World.size_alloc] at T4); refine hK.out _ _ (KbaseA.out _ [_] T4) (fun hH => ?_)) | (have T4 : Sep w ([boxR _ (.cells #[.int .i64 4, .int .i64 5, .string ⟨#[]⟩] 31)] ++ baseA) _ := (Sep.setBox (cs := #[.int .i64 4, .int .i64 5, .string ⟨#[]⟩]) (t := 31) (Sep.setBox (cs := #[.int .i64 4, .int .i64 0, .string ⟨#[]⟩]) (t := 31) (Sep.setBox (cs := #[.int .i64 0, .int .i64 0, .string ⟨#[]⟩]) (t := 31) T3 0 rfl 0 (.int .i64 4)) 0 rfl 1 (.int .i64 5)) 0 rfl 2 (.string ⟨#[]⟩)); (try simp only [size_drew, World.size_alloc] at T4); refine hK.out _ _ (KbaseA.out _ [_] T4) (fun hH => ?_))
            clear hK K; refine takeT 9 hH (hy := .inl ⟨by rfl, by (intro w hSw; try obtain ⟨u0, u1, u2⟩ := hSw); (go_simp; try rfl)⟩) (h := ?_); simp only [Act.put, List.setIfInBounds_toArray, List.set_cons_zero, List.set_cons_succ]
            refine wpAnyH_done (by kernel_rfl) ?_ _
            as_aux_lemma =>
              go_wp2_with fail
              go_meet
              exact ⟨_, rfl, rfl, T4⟩
          · go_simp
            have T5 : Sep w ([boxR _ (.cells #[.int .i64 0, .int .i64 0, .string ⟨#[]⟩] 31)] ++ baseA) _ := Sep.alloc T1 (.cells #[.int .i64 0, .int .i64 0, .string ⟨#[]⟩] 31); (try simp only [size_drew, World.size_alloc] at T5); clear hH; refine hK.out _ _ (KbaseA.out _ [_] T5) (fun hH => ?_); clear hK K; refine readyT [3] ?_; refine consT (fun K hK => ?_) AllReadyH.nil; go_simp
            go_wp2_with (go_at_call 17; refine (KG.out _ [_] T5).mono ?_; rintro e w6 ⟨rfl, T6⟩); clear hH; refine hK.out _ _ (KbaseA.out _ [_] T6) (fun hH => ?_); clear hK K; refine takeT 4 hH (hy := .inl ⟨by rfl, by (intro w hSw; try obtain ⟨u0, u1, u2⟩ := hSw); (go_simp; try rfl)⟩) (h := ?_); simp only [Act.put, List.setIfInBounds_toArray, List.set_cons_zero, List.set_cons_succ]; refine takeT 5 hH (hy := .inl ⟨by rfl, by (intro w hSw; try obtain ⟨u0, u1, u2⟩ := hSw); (go_simp; try rfl)⟩) (h := ?_); simp only [Act.put, List.setIfInBounds_toArray, List.set_cons_zero, List.set_cons_succ]; refine takeT 6 hH (hy := .inl ⟨by rfl, by (intro w hSw; try obtain ⟨u0, u1, u2⟩ := hSw); (go_simp; try rfl)⟩) (h := ?_); simp only [Act.put, List.setIfInBounds_toArray, List.set_cons_zero, List.set_cons_succ]; refine readyT [8] ?_; refine consT (fun K hK => ?_) AllReadyH.nil
            have hz := T6.box 0 rfl; have z0 := cellAt hz 0 (v := .int .i64 0) rfl; have z1 := cellAt hz 1 (v := .int .i64 0) rfl; have z2 := cellAt hz 2 (v := .string ⟨#[]⟩) rfl; have z3 := frozenAt hz 0; have z4 := frozenAt hz 1; have z5 := frozenAt hz 2
            (try simp only [World.cell?_drew, World.frozen?_drew] at z0 z1 z2 z3 z4 z5); go_simp; clear hz z0 z1 z2 z3 z4 z5; clear hH
            have T7 : Sep w ([boxR _ (.cells #[.int .i64 4, .int .i64 5, .string ⟨#[]⟩] 31)] ++ baseA) _ := (Sep.setBox (cs := #[.int .i64 4, .int .i64 5, .string ⟨#[]⟩]) (t := 31) (Sep.setBox (cs := #[.int .i64 4, .int .i64 0, .string ⟨#[]⟩]) (t := 31) (Sep.setBox (cs := #[.int .i64 0, .int .i64 0, .string ⟨#[]⟩]) (t := 31) T6 0 rfl 0 (.int .i64 4)) 0 rfl 1 (.int .i64 5)) 0 rfl 2 (.string ⟨#[]⟩)); (try simp only [size_drew, World.size_alloc] at T7)
            refine hK.out _ _ (KbaseA.out _ [_] T7) (fun hH => ?_); clear hK K; refine takeT 9 hH (hy := .inl ⟨by rfl, by (intro w hSw; try obtain ⟨u0, u1, u2⟩ := hSw); (go_simp; try rfl)⟩) (h := ?_); simp only [Act.put, List.setIfInBounds_toArray, List.set_cons_zero, List.set_cons_succ]
            refine wpAnyH_done (by kernel_rfl) ?_ _
            as_aux_lemma =>
              go_wp2_with fail
              go_meet
              exact ⟨_, rfl, rfl, T7⟩
        · go_simp
          have T8 : Sep w ([boxR _ (.cells #[.int .i64 0, .int .i64 0, .string ⟨#[]⟩] 31)] ++ baseA) _ := Sep.alloc T0 (.cells #[.int .i64 0, .int .i64 0, .string ⟨#[]⟩] 31); (try simp only [size_drew, World.size_alloc] at T8); clear hH; refine hK.out _ _ (KbaseA.out _ [_] T8) (fun hH => ?_); clear hK K; refine readyT [2] ?_; refine consT (fun K hK => ?_) AllReadyH.nil; go_simp
          go_wp2_with (go_at_call 18; refine (KY.out _ [_] T8).mono ?_; rintro e w9 ⟨rfl, T9⟩); clear hH; refine hK.out _ _ (KbaseA.out _ [_] T9) (fun hH => ?_); clear hK K; refine readyT [3] ?_; refine consT (fun K hK => ?_) AllReadyH.nil; go_simp
          go_wp2_with (go_at_call 17; refine (KG.out _ [_] T9).mono ?_; rintro e w10 ⟨rfl, T10⟩); clear hH; refine hK.out _ _ (KbaseA.out _ [_] T10) (fun hH => ?_); clear hK K; refine takeT 4 hH (hy := .inl ⟨by rfl, by (intro w hSw; try obtain ⟨u0, u1, u2⟩ := hSw); (go_simp; try rfl)⟩) (h := ?_); simp only [Act.put, List.setIfInBounds_toArray, List.set_cons_zero, List.set_cons_succ]; refine takeT 5 hH (hy := .inl ⟨by rfl, by (intro w hSw; try obtain ⟨u0, u1, u2⟩ := hSw); (go_simp; try rfl)⟩) (h := ?_); simp only [Act.put, List.setIfInBounds_toArray, List.set_cons_zero, List.set_cons_succ]; refine takeT 6 hH (hy := .inl ⟨by rfl, by (intro w hSw; try obtain ⟨u0, u1, u2⟩ := hSw); (go_simp; try rfl)⟩) (h := ?_); simp only [Act.put, List.setIfInBounds_toArray, List.set_cons_zero, List.set_cons_succ]; refine readyT [8] ?_; refine consT (fun K hK => ?_) AllReadyH.nil
          have hz := T10.box 0 rfl; have z0 := cellAt hz 0 (v := .int .i64 0) rfl; have z1 := cellAt hz 1 (v := .int .i64 0) rfl; have z2 := cellAt hz 2 (v := .string ⟨#[]⟩) rfl; have z3 := frozenAt hz 0; have z4 := frozenAt hz 1; have z5 := frozenAt hz 2
          (try simp only [World.cell?_drew, World.frozen?_drew] at z0 z1 z2 z3 z4 z5); go_simp; clear hz z0 z1 z2 z3 z4 z5; clear hH
          have T11 : Sep w ([boxR _ (.cells #[.int .i64 4, .int .i64 5, .string ⟨#[]⟩] 31)] ++ baseA) _ := (Sep.setBox (cs := #[.int .i64 4, .int .i64 5, .string ⟨#[]⟩]) (t := 31) (Sep.setBox (cs := #[.int .i64 4, .int .i64 0, .string ⟨#[]⟩]) (t := 31) (Sep.setBox (cs := #[.int .i64 0, .int .i64 0, .string ⟨#[]⟩]) (t := 31) T10 0 rfl 0 (.int .i64 4)) 0 rfl 1 (.int .i64 5)) 0 rfl 2 (.string ⟨#[]⟩)); (try simp only [size_drew, World.size_alloc] at T11)
          refine hK.out _ _ (KbaseA.out _ [_] T11) (fun hH => ?_); clear hK K; refine takeT 9 hH (hy := .inl ⟨by rfl, by (intro w hSw; try obtain ⟨u0, u1, u2⟩ := hSw); (go_simp; try rfl)⟩) (h := ?_); simp only [Act.put, List.setIfInBounds_toArray, List.set_cons_zero, List.set_cons_succ]
          refine wpAnyH_done (by kernel_rfl) ?_ _
          as_aux_lemma =>
            go_wp2_with fail
            go_meet
            exact ⟨_, rfl, rfl, T11⟩
    case rest =>
      obtain ⟨q5, rfl, rfl, S⟩ := hcut
      rw [HbaseA.out] at S; clear KY KG KbaseA HbaseA
      replace S : Sep w (boxR q5 (.cells #[.int .i64 4, .int .i64 5, .string ⟨#[]⟩] 31) :: boxR q3 (.cells #[.int .i64 4, .int .i64 3, .string ⟨#[]⟩] 31) :: boxR bt (.cells #[.int .i64 4, .int .i64 19, .string ⟨#[]⟩] 31) :: heapR h B0F :: Rs) _ := S
      obtain ⟨baseA, hbaseA⟩ : ∃ base, base = boxR q5 (.cells #[.int .i64 4, .int .i64 5, .string ⟨#[]⟩] 31) :: boxR q3 (.cells #[.int .i64 4, .int .i64 3, .string ⟨#[]⟩] 31) :: boxR bt (.cells #[.int .i64 4, .int .i64 19, .string ⟨#[]⟩] 31) :: heapR h B0F :: Rs := ⟨_, rfl⟩
      have HbaseA := Lib.hid hbaseA
      have KbaseA : Hid (∀ W (Q : List Res), Sep w (Q ++ baseA) W → W.cell? ⟨bt, 0, none⟩ = some (.int .i64 4) ∧ W.cell? ⟨bt, 1, none⟩ = some (.int .i64 19) ∧ W.cell? ⟨bt, 2, none⟩ = some (.string ⟨#[]⟩)) := Lib.hid fun W Q T => by
        rw [hbaseA] at T
        have i0 := T.box (b := bt) (o := .cells #[.int .i64 4, .int .i64 19, .string ⟨#[]⟩] 31) (Q.length + 2) (by rw [List.getElem?_append_right (by omega), Nat.add_sub_cancel_left]; rfl)
        exact ⟨cellAt i0 0 rfl, cellAt i0 1 rfl, cellAt i0 2 rfl⟩
      obtain ⟨baseB, hbaseB⟩ : ∃ base, base = boxR q5 (.cells #[.int .i64 4, .int .i64 5, .string ⟨#[]⟩] 31) :: boxR q3 (.cells #[.int .i64 4, .int .i64 3, .string ⟨#[]⟩] 31) :: boxR bt (.cells #[.int .i64 4, .int .i64 19, .string ⟨#[]⟩] 31) :: heapR h B1F :: Rs := ⟨_, rfl⟩
      have HbaseB := Lib.hid hbaseB
      have KbaseB : Hid (∀ W (Q : List Res), Sep w (Q ++ baseB) W → W.cell? ⟨bt, 0, none⟩ = some (.int .i64 4) ∧ W.cell? ⟨bt, 1, none⟩ = some (.int .i64 19) ∧ W.cell? ⟨bt, 2, none⟩ = some (.string ⟨#[]⟩)) := Lib.hid fun W Q T => by
        rw [hbaseB] at T
        have i0 := T.box (b := bt) (o := .cells #[.int .i64 4, .int .i64 19, .string ⟨#[]⟩] 31) (Q.length + 2) (by rw [List.getElem?_append_right (by omega), Nat.add_sub_cancel_left]; rfl)
        exact ⟨cellAt i0 0 rfl, cellAt i0 1 rfl, cellAt i0 2 rfl⟩
      have KYA : Hid (∀ W (Q : List Res), Sep w (Q ++ baseA) W → Calls Tryd.prog 18 #[.string ⟨#[107]⟩] W fun e W' => e = .returned (.agg #[.int .i64 3, .int .i64 0, .string ⟨#[107]⟩]) ∧ Sep w (Q ++ baseA) W') := Lib.hid fun W Q T => by
        exact (ltext_ok W _).mono fun e W' ⟨e1, e2⟩ => ⟨e1, T.later e2⟩
      have KYB : Hid (∀ W (Q : List Res), Sep w (Q ++ baseB) W → Calls Tryd.prog 18 #[.string ⟨#[107]⟩] W fun e W' => e = .returned (.agg #[.int .i64 3, .int .i64 0, .string ⟨#[107]⟩]) ∧ Sep w (Q ++ baseB) W') := Lib.hid fun W Q T => by
        exact (ltext_ok W _).mono fun e W' ⟨e1, e2⟩ => ⟨e1, T.later e2⟩
      have KM : Hid (∀ W (Q : List Res), Sep w (Q ++ baseA) W → Calls Tryd.prog 16 #[.pointer (some ⟨h, 0, none⟩), .agg #[.int .i64 4, .int .i64 19, .string ⟨#[]⟩], .agg #[.string ⟨#[75, 101, 121, 69, 114, 114, 111, 114]⟩, .int .i64 3, .int .i64 0, .string ⟨#[107]⟩, .bool true]] W fun e W' => e = .returned (.agg #[.int .i64 4, .int .i64 21, .string ⟨#[]⟩]) ∧ Sep w (Q ++ baseB) W') := Lib.hid fun W Q T => by
        rw [HbaseA.out] at T
        rw [HbaseB.out]
        have hh := kr_make1 T (Q.length + 3) (by rw [List.getElem?_append_right (by omega), Nat.add_sub_cancel_left]; rfl)
        rw [List.set_append_right _ _ (by omega), Nat.add_sub_cancel_left] at hh
        exact hh
      replace S : Sep w (baseA) wc := by rw [hbaseA]; exact S
      replace S := Lib.hid S; clear hbaseA hbaseB
      go_upto_region 7 with fail
      go_cut [7] (fun s7 wx => ∃ qx, s7 = .pointer (some ⟨qx, 0, none⟩) ∧ Sep w (boxR qx (.cells #[.int .i64 4, .int .i64 21, .string ⟨#[]⟩] 31) :: baseB) wx)
      case first =>
        have T0 : Sep w ([] ++ baseA) _ := S.out.drew; clear S
        as_aux_lemma =>
          refine wp_region_held_drew (S := fun W => W.cell? ⟨bt, 0, none⟩ = some (.int .i64 4) ∧ W.cell? ⟨bt, 1, none⟩ = some (.int .i64 19) ∧ W.cell? ⟨bt, 2, none⟩ = some (.string ⟨#[]⟩)) (by kernel_rfl) (KbaseA.out _ [] T0) (fun hH => ?_); refine takeT 0 hH (hy := .inl ⟨by rfl, by (intro w hSw; try obtain ⟨u0, u1, u2⟩ := hSw); (go_simp; try rfl)⟩) (h := ?_); simp only [Act.put, List.setIfInBounds_toArray, List.set_cons_zero, List.set_cons_succ]; refine takeT 1 hH (hy := .inl ⟨by rfl, by (intro w hSw; try obtain ⟨u0, u1, u2⟩ := hSw); (go_simp; try rfl)⟩) (h := ?_); simp only [Act.put, List.setIfInBounds_toArray, List.set_cons_zero, List.set_cons_succ]; refine readyT [2, 5] ?_; refine consT (fun K hK => ?_) (consT (fun K hK => ?_) AllReadyH.nil)
          · go_simp
            go_wp2_with (go_at_call 18; refine (KYA.out _ [] T0).mono ?_; rintro e w1 ⟨rfl, T1⟩); clear hH; refine hK.out _ _ (KbaseA.out _ [] T1) (fun hH => ?_); clear hK K; refine takeT 3 hH (hy := .inl ⟨by rfl, by (intro w hSw; try obtain ⟨u0, u1, u2⟩ := hSw); (go_simp; try rfl)⟩) (h := ?_); simp only [Act.put, List.setIfInBounds_toArray, List.set_cons_zero, List.set_cons_succ]; refine readyT [4, 5] ?_; refine consT (fun K hK => ?_) (consT (fun K hK => ?_) AllReadyH.nil)
            · go_simp
              go_wp2_with (go_at_call 16; refine (KM.out _ [] T1).mono ?_; rintro e w2 ⟨rfl, T2⟩); clear hH; refine hK.out _ _ (KbaseB.out _ [] T2) (fun hH => ?_); clear hK K; refine readyT [5] ?_; refine consT (fun K hK => ?_) AllReadyH.nil; go_simp
              have T3 : Sep w ([boxR _ (.cells #[.int .i64 0, .int .i64 0, .string ⟨#[]⟩] 31)] ++ baseB) _ := Sep.alloc T2 (.cells #[.int .i64 0, .int .i64 0, .string ⟨#[]⟩] 31); (try simp only [size_drew, World.size_alloc] at T3); clear hH; refine hK.out _ _ (KbaseB.out _ [_] T3) (fun hH => ?_); clear hK K; refine readyT [6] ?_; refine consT (fun K hK => ?_) AllReadyH.nil
              have hz := T3.box 0 rfl; have z0 := cellAt hz 0 (v := .int .i64 0) rfl; have z1 := cellAt hz 1 (v := .int .i64 0) rfl; have z2 := cellAt hz 2 (v := .string ⟨#[]⟩) rfl; have z3 := frozenAt hz 0; have z4 := frozenAt hz 1; have z5 := frozenAt hz 2
              (try simp only [World.cell?_drew, World.frozen?_drew] at z0 z1 z2 z3 z4 z5); go_simp; clear hz z0 z1 z2 z3 z4 z5; clear hH
              first | (have T4 : Sep w ([boxR _ (.cells #[.int .i64 4, .int .i64 21, .string ⟨#[]⟩] 31)] ++ baseB) _ := (Sep.alloc T2 (.cells #[.int .i64 4, .int .i64 21, .string ⟨#[]⟩] 31)); (try simp only [size_drew, World.size_alloc] at T4); refine hK.out _ _ (KbaseB.out _ [_] T4) (fun hH => ?_)) | (have T4 : Sep w ([boxR _ (.cells #[.int .i64 4, .int .i64 21, .string ⟨#[]⟩] 31)] ++ baseB) _ := (Sep.setBox (cs := #[.int .i64 4, .int .i64 21, .string ⟨#[]⟩]) (t := 31) (Sep.setBox (cs := #[.int .i64 4, .int .i64 0, .string ⟨#[]⟩]) (t := 31) (Sep.setBox (cs := #[.int .i64 0, .int .i64 0, .string ⟨#[]⟩]) (t := 31) T3 0 rfl 0 (.int .i64 4)) 0 rfl 1 (.int .i64 21)) 0 rfl 2 (.string ⟨#[]⟩)); (try simp only [size_drew, World.size_alloc] at T4); refine hK.out _ _ (KbaseB.out _ [_] T4) (fun hH => ?_))
              clear hK K
              refine wpAnyH_done (by kernel_rfl) ?_ _
              as_aux_lemma =>
                go_wp2_with fail
                go_meet
                exact ⟨_, rfl, T4⟩
            · go_simp
              have T5 : Sep w ([boxR _ (.cells #[.int .i64 0, .int .i64 0, .string ⟨#[]⟩] 31)] ++ baseA) _ := Sep.alloc T1 (.cells #[.int .i64 0, .int .i64 0, .string ⟨#[]⟩] 31); (try simp only [size_drew, World.size_alloc] at T5); clear hH; refine hK.out _ _ (KbaseA.out _ [_] T5) (fun hH => ?_); clear hK K; refine readyT [4] ?_; refine consT (fun K hK => ?_) AllReadyH.nil; go_simp
              go_wp2_with (go_at_call 16; refine (KM.out _ [_] T5).mono ?_; rintro e w6 ⟨rfl, T6⟩); clear hH; refine hK.out _ _ (KbaseB.out _ [_] T6) (fun hH => ?_); clear hK K; refine readyT [6] ?_; refine consT (fun K hK => ?_) AllReadyH.nil
              have hz := T6.box 0 rfl; have z0 := cellAt hz 0 (v := .int .i64 0) rfl; have z1 := cellAt hz 1 (v := .int .i64 0) rfl; have z2 := cellAt hz 2 (v := .string ⟨#[]⟩) rfl; have z3 := frozenAt hz 0; have z4 := frozenAt hz 1; have z5 := frozenAt hz 2
              (try simp only [World.cell?_drew, World.frozen?_drew] at z0 z1 z2 z3 z4 z5); go_simp; clear hz z0 z1 z2 z3 z4 z5; clear hH
              have T7 : Sep w ([boxR _ (.cells #[.int .i64 4, .int .i64 21, .string ⟨#[]⟩] 31)] ++ baseB) _ := (Sep.setBox (cs := #[.int .i64 4, .int .i64 21, .string ⟨#[]⟩]) (t := 31) (Sep.setBox (cs := #[.int .i64 4, .int .i64 0, .string ⟨#[]⟩]) (t := 31) (Sep.setBox (cs := #[.int .i64 0, .int .i64 0, .string ⟨#[]⟩]) (t := 31) T6 0 rfl 0 (.int .i64 4)) 0 rfl 1 (.int .i64 21)) 0 rfl 2 (.string ⟨#[]⟩)); (try simp only [size_drew, World.size_alloc] at T7)
              refine hK.out _ _ (KbaseB.out _ [_] T7) (fun hH => ?_); clear hK K
              refine wpAnyH_done (by kernel_rfl) ?_ _
              as_aux_lemma =>
                go_wp2_with fail
                go_meet
                exact ⟨_, rfl, T7⟩
          · go_simp
            have T8 : Sep w ([boxR _ (.cells #[.int .i64 0, .int .i64 0, .string ⟨#[]⟩] 31)] ++ baseA) _ := Sep.alloc T0 (.cells #[.int .i64 0, .int .i64 0, .string ⟨#[]⟩] 31); (try simp only [size_drew, World.size_alloc] at T8); clear hH; refine hK.out _ _ (KbaseA.out _ [_] T8) (fun hH => ?_); clear hK K; refine readyT [2] ?_; refine consT (fun K hK => ?_) AllReadyH.nil; go_simp
            go_wp2_with (go_at_call 18; refine (KYA.out _ [_] T8).mono ?_; rintro e w9 ⟨rfl, T9⟩); clear hH; refine hK.out _ _ (KbaseA.out _ [_] T9) (fun hH => ?_); clear hK K; refine takeT 3 hH (hy := .inl ⟨by rfl, by (intro w hSw; try obtain ⟨u0, u1, u2⟩ := hSw); (go_simp; try rfl)⟩) (h := ?_); simp only [Act.put, List.setIfInBounds_toArray, List.set_cons_zero, List.set_cons_succ]; refine readyT [4] ?_; refine consT (fun K hK => ?_) AllReadyH.nil; go_simp
            go_wp2_with (go_at_call 16; refine (KM.out _ [_] T9).mono ?_; rintro e w10 ⟨rfl, T10⟩); clear hH; refine hK.out _ _ (KbaseB.out _ [_] T10) (fun hH => ?_); clear hK K; refine readyT [6] ?_; refine consT (fun K hK => ?_) AllReadyH.nil
            have hz := T10.box 0 rfl; have z0 := cellAt hz 0 (v := .int .i64 0) rfl; have z1 := cellAt hz 1 (v := .int .i64 0) rfl; have z2 := cellAt hz 2 (v := .string ⟨#[]⟩) rfl; have z3 := frozenAt hz 0; have z4 := frozenAt hz 1; have z5 := frozenAt hz 2
            (try simp only [World.cell?_drew, World.frozen?_drew] at z0 z1 z2 z3 z4 z5); go_simp; clear hz z0 z1 z2 z3 z4 z5; clear hH
            have T11 : Sep w ([boxR _ (.cells #[.int .i64 4, .int .i64 21, .string ⟨#[]⟩] 31)] ++ baseB) _ := (Sep.setBox (cs := #[.int .i64 4, .int .i64 21, .string ⟨#[]⟩]) (t := 31) (Sep.setBox (cs := #[.int .i64 4, .int .i64 0, .string ⟨#[]⟩]) (t := 31) (Sep.setBox (cs := #[.int .i64 0, .int .i64 0, .string ⟨#[]⟩]) (t := 31) T10 0 rfl 0 (.int .i64 4)) 0 rfl 1 (.int .i64 21)) 0 rfl 2 (.string ⟨#[]⟩)); (try simp only [size_drew, World.size_alloc] at T11)
            refine hK.out _ _ (KbaseB.out _ [_] T11) (fun hH => ?_); clear hK K
            refine wpAnyH_done (by kernel_rfl) ?_ _
            as_aux_lemma =>
              go_wp2_with fail
              go_meet
              exact ⟨_, rfl, T11⟩
      case rest =>
        obtain ⟨q7, rfl, S⟩ := hcut
        rw [HbaseB.out] at S; clear KYA KYB KM KbaseA HbaseA KbaseB HbaseB
        replace S : Sep w (boxR q7 (.cells #[.int .i64 4, .int .i64 21, .string ⟨#[]⟩] 31) :: boxR q5 (.cells #[.int .i64 4, .int .i64 5, .string ⟨#[]⟩] 31) :: boxR q3 (.cells #[.int .i64 4, .int .i64 3, .string ⟨#[]⟩] 31) :: boxR bt (.cells #[.int .i64 4, .int .i64 19, .string ⟨#[]⟩] 31) :: heapR h B1F :: Rs) _ := S
        have d0 := cellAt (S.box (b := bt) 3 rfl) 0 (v := .int .i64 4) rfl
        have d1 := cellAt (S.box (b := bt) 3 rfl) 1 (v := .int .i64 19) rfl
        have d2 := cellAt (S.box (b := bt) 3 rfl) 2 (v := .string ⟨#[]⟩) rfl
        have M := Lib.hid (kr_make2 S 4 rfl); clear S
        go_wp2_with fail
        refine M.out.mono ?_
        rintro e w3 ⟨rfl, S⟩; clear M d0 d1 d2
        replace S : Sep w (boxR q7 (.cells #[.int .i64 4, .int .i64 21, .string ⟨#[]⟩] 31) :: boxR q5 (.cells #[.int .i64 4, .int .i64 5, .string ⟨#[]⟩] 31) :: boxR q3 (.cells #[.int .i64 4, .int .i64 3, .string ⟨#[]⟩] 31) :: boxR bt (.cells #[.int .i64 4, .int .i64 19, .string ⟨#[]⟩] 31) :: heapR h B2F :: Rs) _ := S
        obtain ⟨q8, hq8⟩ : ∃ gx_, (w3.heap.size) = gx_ := ⟨_, rfl⟩
        replace S := (S.alloc (.cells #[.int .i64 4, .int .i64 23, .string ⟨#[]⟩] 31))
        simp only [World.size_alloc, hq8] at S
        replace S : Sep w (boxR q8 (.cells #[.int .i64 4, .int .i64 23, .string ⟨#[]⟩] 31) :: boxR q7 (.cells #[.int .i64 4, .int .i64 21, .string ⟨#[]⟩] 31) :: boxR q5 (.cells #[.int .i64 4, .int .i64 5, .string ⟨#[]⟩] 31) :: boxR q3 (.cells #[.int .i64 4, .int .i64 3, .string ⟨#[]⟩] 31) :: boxR bt (.cells #[.int .i64 4, .int .i64 19, .string ⟨#[]⟩] 31) :: heapR h B2F :: Rs) _ := S
        obtain ⟨baseA, hbaseA⟩ : ∃ base, base = boxR q8 (.cells #[.int .i64 4, .int .i64 23, .string ⟨#[]⟩] 31) :: boxR q7 (.cells #[.int .i64 4, .int .i64 21, .string ⟨#[]⟩] 31) :: boxR q5 (.cells #[.int .i64 4, .int .i64 5, .string ⟨#[]⟩] 31) :: boxR q3 (.cells #[.int .i64 4, .int .i64 3, .string ⟨#[]⟩] 31) :: boxR bt (.cells #[.int .i64 4, .int .i64 19, .string ⟨#[]⟩] 31) :: heapR h B2F :: Rs := ⟨_, rfl⟩
        have HbaseA := Lib.hid hbaseA
        have KbaseA : Hid (∀ W (Q : List Res), Sep w (Q ++ baseA) W → W.cell? ⟨q7, 0, none⟩ = some (.int .i64 4) ∧ W.cell? ⟨q7, 1, none⟩ = some (.int .i64 21) ∧ W.cell? ⟨q7, 2, none⟩ = some (.string ⟨#[]⟩)) := Lib.hid fun W Q T => by
          rw [hbaseA] at T
          have i0 := T.box (b := q7) (o := .cells #[.int .i64 4, .int .i64 21, .string ⟨#[]⟩] 31) (Q.length + 1) (by rw [List.getElem?_append_right (by omega), Nat.add_sub_cancel_left]; rfl)
          exact ⟨cellAt i0 0 rfl, cellAt i0 1 rfl, cellAt i0 2 rfl⟩
        have KY : Hid (∀ W (Q : List Res), Sep w (Q ++ baseA) W → Calls Tryd.prog 18 #[.string ⟨#[97, 114, 103, 115]⟩] W fun e W' => e = .returned (.agg #[.int .i64 3, .int .i64 0, .string ⟨#[97, 114, 103, 115]⟩]) ∧ Sep w (Q ++ baseA) W') := Lib.hid fun W Q T => by
          exact (ltext_ok W _).mono fun e W' ⟨e1, e2⟩ => ⟨e1, T.later e2⟩
        have KG : Hid (∀ W (Q : List Res), Sep w (Q ++ baseA) W → Calls Tryd.prog 17 #[.pointer (some ⟨h, 0, none⟩), .agg #[.int .i64 4, .int .i64 21, .string ⟨#[]⟩], .agg #[.int .i64 3, .int .i64 0, .string ⟨#[97, 114, 103, 115]⟩]] W fun e W' => e = .returned (.tuple #[.agg #[.int .i64 4, .int .i64 20, .string ⟨#[]⟩], .bool true]) ∧ Sep w (Q ++ baseA) W') := Lib.hid fun W Q T => by
          rw [HbaseA.out] at T ⊢
          exact kr_get T (Q.length + 5) (by rw [List.getElem?_append_right (by omega), Nat.add_sub_cancel_left]; rfl) _ _ _ ga
        replace S : Sep w (baseA) (w3.alloc (.cells #[.int .i64 4, .int .i64 23, .string ⟨#[]⟩] 31)) := by rw [hbaseA]; exact S
        replace S := Lib.hid S; clear hbaseA
        go_upto_region 9 with fail
        (try simp only [hq8])
        obtain ⟨Wd9, hW⟩ : ∃ gx_, ((w3.alloc (.cells #[.int .i64 4, .int .i64 23, .string ⟨#[]⟩] 31))) = gx_ := ⟨_, rfl⟩
        rw [hW] at S ⊢; clear hW hq8
        go_cut [9, 10] (fun s9 s10 wx => ∃ qx, s9 = .pointer (some ⟨qx, 0, none⟩) ∧ s10 = .bool true ∧ Sep w (boxR qx (.cells #[.int .i64 4, .int .i64 20, .string ⟨#[]⟩] 31) :: baseA) wx)
        case first =>
          have T0 : Sep w ([] ++ baseA) _ := S.out.drew; clear S
          as_aux_lemma =>
            refine wp_region_held_drew (S := fun W => W.cell? ⟨q7, 0, none⟩ = some (.int .i64 4) ∧ W.cell? ⟨q7, 1, none⟩ = some (.int .i64 21) ∧ W.cell? ⟨q7, 2, none⟩ = some (.string ⟨#[]⟩)) (by kernel_rfl) (KbaseA.out _ [] T0) (fun hH => ?_); refine takeT 0 hH (hy := .inl ⟨by rfl, by (intro w hSw; try obtain ⟨u0, u1, u2⟩ := hSw); (go_simp; try rfl)⟩) (h := ?_); simp only [Act.put, List.setIfInBounds_toArray, List.set_cons_zero, List.set_cons_succ]; refine takeT 1 hH (hy := .inl ⟨by rfl, by (intro w hSw; try obtain ⟨u0, u1, u2⟩ := hSw); (go_simp; try rfl)⟩) (h := ?_); simp only [Act.put, List.setIfInBounds_toArray, List.set_cons_zero, List.set_cons_succ]; refine readyT [2, 7] ?_; refine consT (fun K hK => ?_) (consT (fun K hK => ?_) AllReadyH.nil)
            · go_simp
              go_wp2_with (go_at_call 18; refine (KY.out _ [] T0).mono ?_; rintro e w1 ⟨rfl, T1⟩); clear hH; refine hK.out _ _ (KbaseA.out _ [] T1) (fun hH => ?_); clear hK K; refine readyT [3, 7] ?_; refine consT (fun K hK => ?_) (consT (fun K hK => ?_) AllReadyH.nil)
              · go_simp
                go_wp2_with (go_at_call 17; refine (KG.out _ [] T1).mono ?_; rintro e w2 ⟨rfl, T2⟩); clear hH; refine hK.out _ _ (KbaseA.out _ [] T2) (fun hH => ?_); clear hK K; refine takeT 4 hH (hy := .inl ⟨by rfl, by (intro w hSw; try obtain ⟨u0, u1, u2⟩ := hSw); (go_simp; try rfl)⟩) (h := ?_); simp only [Act.put, List.setIfInBounds_toArray, List.set_cons_zero, List.set_cons_succ]; refine takeT 5 hH (hy := .inl ⟨by rfl, by (intro w hSw; try obtain ⟨u0, u1, u2⟩ := hSw); (go_simp; try rfl)⟩) (h := ?_); simp only [Act.put, List.setIfInBounds_toArray, List.set_cons_zero, List.set_cons_succ]; refine takeT 6 hH (hy := .inl ⟨by rfl, by (intro w hSw; try obtain ⟨u0, u1, u2⟩ := hSw); (go_simp; try rfl)⟩) (h := ?_); simp only [Act.put, List.setIfInBounds_toArray, List.set_cons_zero, List.set_cons_succ]; refine readyT [7] ?_; refine consT (fun K hK => ?_) AllReadyH.nil; go_simp
                have T3 : Sep w ([boxR _ (.cells #[.int .i64 0, .int .i64 0, .string ⟨#[]⟩] 31)] ++ baseA) _ := Sep.alloc T2 (.cells #[.int .i64 0, .int .i64 0, .string ⟨#[]⟩] 31); (try simp only [size_drew, World.size_alloc] at T3); clear hH; refine hK.out _ _ (KbaseA.out _ [_] T3) (fun hH => ?_); clear hK K; refine readyT [8] ?_; refine consT (fun K hK => ?_) AllReadyH.nil
                have hz := T3.box 0 rfl; have z0 := cellAt hz 0 (v := .int .i64 0) rfl; have z1 := cellAt hz 1 (v := .int .i64 0) rfl; have z2 := cellAt hz 2 (v := .string ⟨#[]⟩) rfl; have z3 := frozenAt hz 0; have z4 := frozenAt hz 1; have z5 := frozenAt hz 2
                (try simp only [World.cell?_drew, World.frozen?_drew] at z0 z1 z2 z3 z4 z5); go_simp; clear hz z0 z1 z2 z3 z4 z5; clear hH
                first | (have T4 : Sep w ([boxR _ (.cells #[.int .i64 4, .int .i64 20, .string ⟨#[]⟩] 31)] ++ baseA) _ := (Sep.alloc T2 (.cells #[.int .i64 4, .int .i64 20, .string ⟨#[]⟩] 31)); (try simp only [size_drew, World.size_alloc] at T4); refine hK.out _ _ (KbaseA.out _ [_] T4) (fun hH => ?_)) | (have T4 : Sep w ([boxR _ (.cells #[.int .i64 4, .int .i64 20, .string ⟨#[]⟩] 31)] ++ baseA) _ := (Sep.setBox (cs := #[.int .i64 4, .int .i64 20, .string ⟨#[]⟩]) (t := 31) (Sep.setBox (cs := #[.int .i64 4, .int .i64 0, .string ⟨#[]⟩]) (t := 31) (Sep.setBox (cs := #[.int .i64 0, .int .i64 0, .string ⟨#[]⟩]) (t := 31) T3 0 rfl 0 (.int .i64 4)) 0 rfl 1 (.int .i64 20)) 0 rfl 2 (.string ⟨#[]⟩)); (try simp only [size_drew, World.size_alloc] at T4); refine hK.out _ _ (KbaseA.out _ [_] T4) (fun hH => ?_))
                clear hK K; refine takeT 9 hH (hy := .inl ⟨by rfl, by (intro w hSw; try obtain ⟨u0, u1, u2⟩ := hSw); (go_simp; try rfl)⟩) (h := ?_); simp only [Act.put, List.setIfInBounds_toArray, List.set_cons_zero, List.set_cons_succ]
                refine wpAnyH_done (by kernel_rfl) ?_ _
                as_aux_lemma =>
                  go_wp2_with fail
                  go_meet
                  exact ⟨_, rfl, rfl, T4⟩
              · go_simp
                have T5 : Sep w ([boxR _ (.cells #[.int .i64 0, .int .i64 0, .string ⟨#[]⟩] 31)] ++ baseA) _ := Sep.alloc T1 (.cells #[.int .i64 0, .int .i64 0, .string ⟨#[]⟩] 31); (try simp only [size_drew, World.size_alloc] at T5); clear hH; refine hK.out _ _ (KbaseA.out _ [_] T5) (fun hH => ?_); clear hK K; refine readyT [3] ?_; refine consT (fun K hK => ?_) AllReadyH.nil; go_simp
                go_wp2_with (go_at_call 17; refine (KG.out _ [_] T5).mono ?_; rintro e w6 ⟨rfl, T6⟩); clear hH; refine hK.out _ _ (KbaseA.out _ [_] T6) (fun hH => ?_); clear hK K; refine takeT 4 hH (hy := .inl ⟨by rfl, by (intro w hSw; try obtain ⟨u0, u1, u2⟩ := hSw); (go_simp; try rfl)⟩) (h := ?_); simp only [Act.put, List.setIfInBounds_toArray, List.set_cons_zero, List.set_cons_succ]; refine takeT 5 hH (hy := .inl ⟨by rfl, by (intro w hSw; try obtain ⟨u0, u1, u2⟩ := hSw); (go_simp; try rfl)⟩) (h := ?_); simp only [Act.put, List.setIfInBounds_toArray, List.set_cons_zero, List.set_cons_succ]; refine takeT 6 hH (hy := .inl ⟨by rfl, by (intro w hSw; try obtain ⟨u0, u1, u2⟩ := hSw); (go_simp; try rfl)⟩) (h := ?_); simp only [Act.put, List.setIfInBounds_toArray, List.set_cons_zero, List.set_cons_succ]; refine readyT [8] ?_; refine consT (fun K hK => ?_) AllReadyH.nil
                have hz := T6.box 0 rfl; have z0 := cellAt hz 0 (v := .int .i64 0) rfl; have z1 := cellAt hz 1 (v := .int .i64 0) rfl; have z2 := cellAt hz 2 (v := .string ⟨#[]⟩) rfl; have z3 := frozenAt hz 0; have z4 := frozenAt hz 1; have z5 := frozenAt hz 2
                (try simp only [World.cell?_drew, World.frozen?_drew] at z0 z1 z2 z3 z4 z5); go_simp; clear hz z0 z1 z2 z3 z4 z5; clear hH
                have T7 : Sep w ([boxR _ (.cells #[.int .i64 4, .int .i64 20, .string ⟨#[]⟩] 31)] ++ baseA) _ := (Sep.setBox (cs := #[.int .i64 4, .int .i64 20, .string ⟨#[]⟩]) (t := 31) (Sep.setBox (cs := #[.int .i64 4, .int .i64 0, .string ⟨#[]⟩]) (t := 31) (Sep.setBox (cs := #[.int .i64 0, .int .i64 0, .string ⟨#[]⟩]) (t := 31) T6 0 rfl 0 (.int .i64 4)) 0 rfl 1 (.int .i64 20)) 0 rfl 2 (.string ⟨#[]⟩)); (try simp only [size_drew, World.size_alloc] at T7)
                refine hK.out _ _ (KbaseA.out _ [_] T7) (fun hH => ?_); clear hK K; refine takeT 9 hH (hy := .inl ⟨by rfl, by (intro w hSw; try obtain ⟨u0, u1, u2⟩ := hSw); (go_simp; try rfl)⟩) (h := ?_); simp only [Act.put, List.setIfInBounds_toArray, List.set_cons_zero, List.set_cons_succ]
                refine wpAnyH_done (by kernel_rfl) ?_ _
                as_aux_lemma =>
                  go_wp2_with fail
                  go_meet
                  exact ⟨_, rfl, rfl, T7⟩
            · go_simp
              have T8 : Sep w ([boxR _ (.cells #[.int .i64 0, .int .i64 0, .string ⟨#[]⟩] 31)] ++ baseA) _ := Sep.alloc T0 (.cells #[.int .i64 0, .int .i64 0, .string ⟨#[]⟩] 31); (try simp only [size_drew, World.size_alloc] at T8); clear hH; refine hK.out _ _ (KbaseA.out _ [_] T8) (fun hH => ?_); clear hK K; refine readyT [2] ?_; refine consT (fun K hK => ?_) AllReadyH.nil; go_simp
              go_wp2_with (go_at_call 18; refine (KY.out _ [_] T8).mono ?_; rintro e w9 ⟨rfl, T9⟩); clear hH; refine hK.out _ _ (KbaseA.out _ [_] T9) (fun hH => ?_); clear hK K; refine readyT [3] ?_; refine consT (fun K hK => ?_) AllReadyH.nil; go_simp
              go_wp2_with (go_at_call 17; refine (KG.out _ [_] T9).mono ?_; rintro e w10 ⟨rfl, T10⟩); clear hH; refine hK.out _ _ (KbaseA.out _ [_] T10) (fun hH => ?_); clear hK K; refine takeT 4 hH (hy := .inl ⟨by rfl, by (intro w hSw; try obtain ⟨u0, u1, u2⟩ := hSw); (go_simp; try rfl)⟩) (h := ?_); simp only [Act.put, List.setIfInBounds_toArray, List.set_cons_zero, List.set_cons_succ]; refine takeT 5 hH (hy := .inl ⟨by rfl, by (intro w hSw; try obtain ⟨u0, u1, u2⟩ := hSw); (go_simp; try rfl)⟩) (h := ?_); simp only [Act.put, List.setIfInBounds_toArray, List.set_cons_zero, List.set_cons_succ]; refine takeT 6 hH (hy := .inl ⟨by rfl, by (intro w hSw; try obtain ⟨u0, u1, u2⟩ := hSw); (go_simp; try rfl)⟩) (h := ?_); simp only [Act.put, List.setIfInBounds_toArray, List.set_cons_zero, List.set_cons_succ]; refine readyT [8] ?_; refine consT (fun K hK => ?_) AllReadyH.nil
              have hz := T10.box 0 rfl; have z0 := cellAt hz 0 (v := .int .i64 0) rfl; have z1 := cellAt hz 1 (v := .int .i64 0) rfl; have z2 := cellAt hz 2 (v := .string ⟨#[]⟩) rfl; have z3 := frozenAt hz 0; have z4 := frozenAt hz 1; have z5 := frozenAt hz 2
              (try simp only [World.cell?_drew, World.frozen?_drew] at z0 z1 z2 z3 z4 z5); go_simp; clear hz z0 z1 z2 z3 z4 z5; clear hH
              have T11 : Sep w ([boxR _ (.cells #[.int .i64 4, .int .i64 20, .string ⟨#[]⟩] 31)] ++ baseA) _ := (Sep.setBox (cs := #[.int .i64 4, .int .i64 20, .string ⟨#[]⟩]) (t := 31) (Sep.setBox (cs := #[.int .i64 4, .int .i64 0, .string ⟨#[]⟩]) (t := 31) (Sep.setBox (cs := #[.int .i64 0, .int .i64 0, .string ⟨#[]⟩]) (t := 31) T10 0 rfl 0 (.int .i64 4)) 0 rfl 1 (.int .i64 20)) 0 rfl 2 (.string ⟨#[]⟩)); (try simp only [size_drew, World.size_alloc] at T11)
              refine hK.out _ _ (KbaseA.out _ [_] T11) (fun hH => ?_); clear hK K; refine takeT 9 hH (hy := .inl ⟨by rfl, by (intro w hSw; try obtain ⟨u0, u1, u2⟩ := hSw); (go_simp; try rfl)⟩) (h := ?_); simp only [Act.put, List.setIfInBounds_toArray, List.set_cons_zero, List.set_cons_succ]
              refine wpAnyH_done (by kernel_rfl) ?_ _
              as_aux_lemma =>
                go_wp2_with fail
                go_meet
                exact ⟨_, rfl, rfl, T11⟩
        case rest =>
          obtain ⟨q9, rfl, rfl, S⟩ := hcut
          rw [HbaseA.out] at S; clear KY KG KbaseA HbaseA
          replace S : Sep w (boxR q9 (.cells #[.int .i64 4, .int .i64 20, .string ⟨#[]⟩] 31) :: boxR q8 (.cells #[.int .i64 4, .int .i64 23, .string ⟨#[]⟩] 31) :: boxR q7 (.cells #[.int .i64 4, .int .i64 21, .string ⟨#[]⟩] 31) :: boxR q5 (.cells #[.int .i64 4, .int .i64 5, .string ⟨#[]⟩] 31) :: boxR q3 (.cells #[.int .i64 4, .int .i64 3, .string ⟨#[]⟩] 31) :: boxR bt (.cells #[.int .i64 4, .int .i64 19, .string ⟨#[]⟩] 31) :: heapR h B2F :: Rs) _ := S
          have d0 := cellAt (S.box (b := bt) 5 rfl) 0 (v := .int .i64 4) rfl
          have d1 := cellAt (S.box (b := bt) 5 rfl) 1 (v := .int .i64 19) rfl
          have d2 := cellAt (S.box (b := bt) 5 rfl) 2 (v := .string ⟨#[]⟩) rfl
          have d3 := cellAt (S.box (b := q7) 2 rfl) 0 (v := .int .i64 4) rfl
          have d4 := cellAt (S.box (b := q7) 2 rfl) 1 (v := .int .i64 21) rfl
          have d5 := cellAt (S.box (b := q7) 2 rfl) 2 (v := .string ⟨#[]⟩) rfl
          have d6 := cellAt (S.box (b := q3) 4 rfl) 0 (v := .int .i64 4) rfl
          have d7 := cellAt (S.box (b := q3) 4 rfl) 1 (v := .int .i64 3) rfl
          have d8 := cellAt (S.box (b := q3) 4 rfl) 2 (v := .string ⟨#[]⟩) rfl
          have M := Lib.hid (kr_match S 6 rfl r21F r3F _ m1 true ⟨#[]⟩ rfl rfl); clear S
          go_wp2_with fail
          refine M.out.mono ?_
          rintro e w4 ⟨rfl, S⟩; clear M d0 d1 d2 d3 d4 d5 d6 d7 d8
          replace S : Sep w (boxR q9 (.cells #[.int .i64 4, .int .i64 20, .string ⟨#[]⟩] 31) :: boxR q8 (.cells #[.int .i64 4, .int .i64 23, .string ⟨#[]⟩] 31) :: boxR q7 (.cells #[.int .i64 4, .int .i64 21, .string ⟨#[]⟩] 31) :: boxR q5 (.cells #[.int .i64 4, .int .i64 5, .string ⟨#[]⟩] 31) :: boxR q3 (.cells #[.int .i64 4, .int .i64 3, .string ⟨#[]⟩] 31) :: boxR bt (.cells #[.int .i64 4, .int .i64 19, .string ⟨#[]⟩] 31) :: heapR h B2F :: Rs) _ := S
          obtain ⟨q12, hq12⟩ : ∃ gx_, (w4.heap.size) = gx_ := ⟨_, rfl⟩
          replace S := (S.alloc (.cells #[.string ⟨#[]⟩, .int .i64 0, .int .i64 0, .string ⟨#[]⟩, .bool false] 35))
          simp only [World.size_alloc, hq12] at S
          replace S : Sep w (boxR q12 (.cells #[.string ⟨#[]⟩, .int .i64 0, .int .i64 0, .string ⟨#[]⟩, .bool false] 35) :: boxR q9 (.cells #[.int .i64 4, .int .i64 20, .string ⟨#[]⟩] 31) :: boxR q8 (.cells #[.int .i64 4, .int .i64 23, .string ⟨#[]⟩] 31) :: boxR q7 (.cells #[.int .i64 4, .int .i64 21, .string ⟨#[]⟩] 31) :: boxR q5 (.cells #[.int .i64 4, .int .i64 5, .string ⟨#[]⟩] 31) :: boxR q3 (.cells #[.int .i64 4, .int .i64 3, .string ⟨#[]⟩] 31) :: boxR bt (.cells #[.int .i64 4, .int .i64 19, .string ⟨#[]⟩] 31) :: heapR h B2F :: Rs) _ := S
          have d0 := cellAt (S.box (b := bt) 6 rfl) 0 (v := .int .i64 4) rfl
          have d1 := cellAt (S.box (b := bt) 6 rfl) 1 (v := .int .i64 19) rfl
          have d2 := cellAt (S.box (b := bt) 6 rfl) 2 (v := .string ⟨#[]⟩) rfl
          have d3 := cellAt (S.box (b := q8) 2 rfl) 0 (v := .int .i64 4) rfl
          have d4 := cellAt (S.box (b := q8) 2 rfl) 1 (v := .int .i64 23) rfl
          have d5 := cellAt (S.box (b := q8) 2 rfl) 2 (v := .string ⟨#[]⟩) rfl
          have d6 := cellAt (S.box (b := q5) 4 rfl) 0 (v := .int .i64 4) rfl
          have d7 := cellAt (S.box (b := q5) 4 rfl) 1 (v := .int .i64 5) rfl
          have d8 := cellAt (S.box (b := q5) 4 rfl) 2 (v := .string ⟨#[]⟩) rfl
          have M := Lib.hid (kr_match S 7 rfl r23F r5F _ m2 false ⟨#[]⟩ rfl rfl); clear S
          go_wp2_with fail
          (try simp only [hq12])
          refine M.out.mono ?_
          rintro e w5 ⟨rfl, S⟩; clear M d0 d1 d2 d3 d4 d5 d6 d7 d8 hq12
          replace S : Sep w (boxR q12 (.cells #[.string ⟨#[]⟩, .int .i64 0, .int .i64 0, .string ⟨#[]⟩, .bool false] 35) :: boxR q9 (.cells #[.int .i64 4, .int .i64 20, .string ⟨#[]⟩] 31) :: boxR q8 (.cells #[.int .i64 4, .int .i64 23, .string ⟨#[]⟩] 31) :: boxR q7 (.cells #[.int .i64 4, .int .i64 21, .string ⟨#[]⟩] 31) :: boxR q5 (.cells #[.int .i64 4, .int .i64 5, .string ⟨#[]⟩] 31) :: boxR q3 (.cells #[.int .i64 4, .int .i64 3, .string ⟨#[]⟩] 31) :: boxR bt (.cells #[.int .i64 4, .int .i64 19, .string ⟨#[]⟩] 31) :: heapR h B2F :: Rs) _ := S
          obtain ⟨q14, hq14⟩ : ∃ gx_, (w5.heap.size) = gx_ := ⟨_, rfl⟩
          replace S := (S.alloc (.cells #[.string ⟨#[]⟩, .int .i64 0, .int .i64 0, .string ⟨#[]⟩, .bool false] 35))
          simp only [World.size_alloc, hq14] at S
          replace S : Sep w (boxR q14 (.cells #[.string ⟨#[]⟩, .int .i64 0, .int .i64 0, .string ⟨#[]⟩, .bool false] 35) :: boxR q12 (.cells #[.string ⟨#[]⟩, .int .i64 0, .int .i64 0, .string ⟨#[]⟩, .bool false] 35) :: boxR q9 (.cells #[.int .i64 4, .int .i64 20, .string ⟨#[]⟩] 31) :: boxR q8 (.cells #[.int .i64 4, .int .i64 23, .string ⟨#[]⟩] 31) :: boxR q7 (.cells #[.int .i64 4, .int .i64 21, .string ⟨#[]⟩] 31) :: boxR q5 (.cells #[.int .i64 4, .int .i64 5, .string ⟨#[]⟩] 31) :: boxR q3 (.cells #[.int .i64 4, .int .i64 3, .string ⟨#[]⟩] 31) :: boxR bt (.cells #[.int .i64 4, .int .i64 19, .string ⟨#[]⟩] 31) :: heapR h B2F :: Rs) _ := S
          obtain ⟨baseA, hbaseA⟩ : ∃ base, base = boxR q14 (.cells #[.string ⟨#[]⟩, .int .i64 0, .int .i64 0, .string ⟨#[]⟩, .bool false] 35) :: boxR q12 (.cells #[.string ⟨#[]⟩, .int .i64 0, .int .i64 0, .string ⟨#[]⟩, .bool false] 35) :: boxR q9 (.cells #[.int .i64 4, .int .i64 20, .string ⟨#[]⟩] 31) :: boxR q8 (.cells #[.int .i64 4, .int .i64 23, .string ⟨#[]⟩] 31) :: boxR q7 (.cells #[.int .i64 4, .int .i64 21, .string ⟨#[]⟩] 31) :: boxR q5 (.cells #[.int .i64 4, .int .i64 5, .string ⟨#[]⟩] 31) :: boxR q3 (.cells #[.int .i64 4, .int .i64 3, .string ⟨#[]⟩] 31) :: boxR bt (.cells #[.int .i64 4, .int .i64 19, .string ⟨#[]⟩] 31) :: heapR h B2F :: Rs := ⟨_, rfl⟩
          have HbaseA := Lib.hid hbaseA
          have KbaseA : Hid (∀ W (Q : List Res), Sep w (Q ++ baseA) W → W.cell? ⟨bt, 0, none⟩ = some (.int .i64 4) ∧ W.cell? ⟨bt, 1, none⟩ = some (.int .i64 19) ∧ W.cell? ⟨bt, 2, none⟩ = some (.string ⟨#[]⟩) ∧ W.cell? ⟨q7, 0, none⟩ = some (.int .i64 4) ∧ W.cell? ⟨q7, 1, none⟩ = some (.int .i64 21) ∧ W.cell? ⟨q7, 2, none⟩ = some (.string ⟨#[]⟩)) := Lib.hid fun W Q T => by
            rw [hbaseA] at T
            have i0 := T.box (b := bt) (o := .cells #[.int .i64 4, .int .i64 19, .string ⟨#[]⟩] 31) (Q.length + 7) (by rw [List.getElem?_append_right (by omega), Nat.add_sub_cancel_left]; rfl)
            have i1 := T.box (b := q7) (o := .cells #[.int .i64 4, .int .i64 21, .string ⟨#[]⟩] 31) (Q.length + 4) (by rw [List.getElem?_append_right (by omega), Nat.add_sub_cancel_left]; rfl)
            exact ⟨cellAt i0 0 rfl, cellAt i0 1 rfl, cellAt i0 2 rfl, cellAt i1 0 rfl, cellAt i1 1 rfl, cellAt i1 2 rfl⟩
          have KY : Hid (∀ W (Q : List Res), Sep w (Q ++ baseA) W → Calls Tryd.prog 18 #[.string ⟨#[107]⟩] W fun e W' => e = .returned (.agg #[.int .i64 3, .int .i64 0, .string ⟨#[107]⟩]) ∧ Sep w (Q ++ baseA) W') := Lib.hid fun W Q T => by
            exact (ltext_ok W _).mono fun e W' ⟨e1, e2⟩ => ⟨e1, T.later e2⟩
          have KM : Hid (∀ W (Q : List Res), Sep w (Q ++ baseA) W → Calls Tryd.prog 19 #[.pointer (some ⟨h, 0, none⟩), .agg #[.int .i64 4, .int .i64 19, .string ⟨#[]⟩], .agg #[.int .i64 4, .int .i64 21, .string ⟨#[]⟩], .agg #[.int .i64 3, .int .i64 0, .string ⟨#[107]⟩]] W fun e W' => e = .returned (.tuple #[.bool false, .agg #[.string ⟨#[84, 121, 112, 101, 69, 114, 114, 111, 114]⟩, .int .i64 0, .int .i64 0, .string ⟨#[]⟩, .bool false]]) ∧ Sep w (Q ++ baseA) W') := Lib.hid fun W Q T => by
            rw [HbaseA.out] at T ⊢
            exact kr_match T (Q.length + 8) (by rw [List.getElem?_append_right (by omega), Nat.add_sub_cancel_left]; rfl) r21F oneK _ m3 false _ rfl rfl
          replace S : Sep w (baseA) (w5.alloc (.cells #[.string ⟨#[]⟩, .int .i64 0, .int .i64 0, .string ⟨#[]⟩, .bool false] 35)) := by rw [hbaseA]; exact S
          replace S := Lib.hid S; clear hbaseA
          go_upto_region 12 with fail
          (try simp only [hq14])
          obtain ⟨Wd12, hW⟩ : ∃ gx_, ((w5.alloc (.cells #[.string ⟨#[]⟩, .int .i64 0, .int .i64 0, .string ⟨#[]⟩, .bool false] 35))) = gx_ := ⟨_, rfl⟩
          rw [hW] at S ⊢; clear hW hq14
          go_cut [16] (fun s16 wx => ∃ qx, s16 = .pointer (some ⟨qx, 0, none⟩) ∧ Sep w (boxR qx (.cells #[.string ⟨#[84, 121, 112, 101, 69, 114, 114, 111, 114]⟩, .int .i64 0, .int .i64 0, .string ⟨#[]⟩, .bool false] 35) :: baseA) wx)
          case first =>
            have T0 : Sep w ([] ++ baseA) _ := S.out.drew; clear S
            as_aux_lemma =>
              refine wp_region_held_drew (S := fun W => W.cell? ⟨bt, 0, none⟩ = some (.int .i64 4) ∧ W.cell? ⟨bt, 1, none⟩ = some (.int .i64 19) ∧ W.cell? ⟨bt, 2, none⟩ = some (.string ⟨#[]⟩) ∧ W.cell? ⟨q7, 0, none⟩ = some (.int .i64 4) ∧ W.cell? ⟨q7, 1, none⟩ = some (.int .i64 21) ∧ W.cell? ⟨q7, 2, none⟩ = some (.string ⟨#[]⟩)) (by kernel_rfl) (KbaseA.out _ [] T0) (fun hH => ?_); refine takeT 0 hH (hy := .inl ⟨by rfl, by (intro w hSw; try obtain ⟨u0, u1, u2, u3, u4, u5⟩ := hSw); (go_simp; try rfl)⟩) (h := ?_); simp only [Act.put, List.setIfInBounds_toArray, List.set_cons_zero, List.set_cons_succ]; refine takeT 1 hH (hy := .inl ⟨by rfl, by (intro w hSw; try obtain ⟨u0, u1, u2, u3, u4, u5⟩ := hSw); (go_simp; try rfl)⟩) (h := ?_); simp only [Act.put, List.setIfInBounds_toArray, List.set_cons_zero, List.set_cons_succ]; refine takeT 2 hH (hy := .inl ⟨by rfl, by (intro w hSw; try obtain ⟨u0, u1, u2, u3, u4, u5⟩ := hSw); (go_simp; try rfl)⟩) (h := ?_); simp only [Act.put, List.setIfInBounds_toArray, List.set_cons_zero, List.set_cons_succ]; refine readyT [3, 8] ?_; refine consT (fun K hK => ?_) (consT (fun K hK => ?_) AllReadyH.nil)
              · go_simp
                go_wp2_with (go_at_call 18; refine (KY.out _ [] T0).mono ?_; rintro e w1 ⟨rfl, T1⟩); clear hH; refine hK.out _ _ (KbaseA.out _ [] T1) (fun hH => ?_); clear hK K; refine readyT [4, 8] ?_; refine consT (fun K hK => ?_) (consT (fun K hK => ?_) AllReadyH.nil)
                · go_simp
                  go_wp2_with (go_at_call 19; refine (KM.out _ [] T1).mono ?_; rintro e w2 ⟨rfl, T2⟩); clear hH; refine hK.out _ _ (KbaseA.out _ [] T2) (fun hH => ?_); clear hK K; refine takeT 5 hH (hy := .inl ⟨by rfl, by (intro w hSw; try obtain ⟨u0, u1, u2, u3, u4, u5⟩ := hSw); (go_simp; try rfl)⟩) (h := ?_); simp only [Act.put, List.setIfInBounds_toArray, List.set_cons_zero, List.set_cons_succ]; refine takeT 6 hH (hy := .inl ⟨by rfl, by (intro w hSw; try obtain ⟨u0, u1, u2, u3, u4, u5⟩ := hSw); (go_simp; try rfl)⟩) (h := ?_); simp only [Act.put, List.setIfInBounds_toArray, List.set_cons_zero, List.set_cons_succ]; refine takeT 7 hH (hy := .inl ⟨by rfl, by (intro w hSw; try obtain ⟨u0, u1, u2, u3, u4, u5⟩ := hSw); (go_simp; try rfl)⟩) (h := ?_); simp only [Act.put, List.setIfInBounds_toArray, List.set_cons_zero, List.set_cons_succ]; refine readyT [8] ?_; refine consT (fun K hK => ?_) AllReadyH.nil; go_simp
                  have T3 : Sep w ([boxR _ (.cells #[.string ⟨#[]⟩, .int .i64 0, .int .i64 0, .string ⟨#[]⟩, .bool false] 35)] ++ baseA) _ := Sep.alloc T2 (.cells #[.string ⟨#[]⟩, .int .i64 0, .int .i64 0, .string ⟨#[]⟩, .bool false] 35); (try simp only [size_drew, World.size_alloc] at T3); clear hH; refine hK.out _ _ (KbaseA.out _ [_] T3) (fun hH => ?_); clear hK K; refine takeT 9 hH (hy := .inl ⟨by rfl, by (intro w hSw; try obtain ⟨u0, u1, u2, u3, u4, u5⟩ := hSw); (go_simp; try rfl)⟩) (h := ?_); simp only [Act.put, List.setIfInBounds_toArray, List.set_cons_zero, List.set_cons_succ]; refine readyT [10] ?_; refine consT (fun K hK => ?_) AllReadyH.nil
                  have hz := T3.box 0 rfl; have z0 := cellAt hz 0 (v := .string ⟨#[]⟩) rfl; have z1 := cellAt hz 1 (v := .int .i64 0) rfl; have z2 := cellAt hz 2 (v := .int .i64 0) rfl; have z3 := cellAt hz 3 (v := .string ⟨#[]⟩) rfl; have z4 := cellAt hz 4 (v := .bool false) rfl; have z5 := frozenAt hz 0; have z6 := frozenAt hz 1; have z7 := frozenAt hz 2; have z8 := frozenAt hz 3; have z9 := frozenAt hz 4
                  (try simp only [World.cell?_drew, World.frozen?_drew] at z0 z1 z2 z3 z4 z5 z6 z7 z8 z9); go_simp; clear hz z0 z1 z2 z3 z4 z5 z6 z7 z8 z9; clear hH
                  first | (have T4 : Sep w ([boxR _ (.cells #[.string ⟨#[84, 121, 112, 101, 69, 114, 114, 111, 114]⟩, .int .i64 0, .int .i64 0, .string ⟨#[]⟩, .bool false] 35)] ++ baseA) _ := (Sep.alloc T2 (.cells #[.string ⟨#[84, 121, 112, 101, 69, 114, 114, 111, 114]⟩, .int .i64 0, .int .i64 0, .string ⟨#[]⟩, .bool false] 35)); (try simp only [size_drew, World.size_alloc] at T4); refine hK.out _ _ (KbaseA.out _ [_] T4) (fun hH => ?_)) | (have T4 : Sep w ([boxR _ (.cells #[.string ⟨#[84, 121, 112, 101, 69, 114, 114, 111, 114]⟩, .int .i64 0, .int .i64 0, .string ⟨#[]⟩, .bool false] 35)] ++ baseA) _ := (Sep.setBox (cs := #[.string ⟨#[84, 121, 112, 101, 69, 114, 114, 111, 114]⟩, .int .i64 0, .int .i64 0, .string ⟨#[]⟩, .bool false]) (t := 35) (Sep.setBox (cs := #[.string ⟨#[84, 121, 112, 101, 69, 114, 114, 111, 114]⟩, .int .i64 0, .int .i64 0, .string ⟨#[]⟩, .bool false]) (t := 35) (Sep.setBox (cs := #[.string ⟨#[84, 121, 112, 101, 69, 114, 114, 111, 114]⟩, .int .i64 0, .int .i64 0, .string ⟨#[]⟩, .bool false]) (t := 35) (Sep.setBox (cs := #[.string ⟨#[84, 121, 112, 101, 69, 114, 114, 111, 114]⟩, .int .i64 0, .int .i64 0, .string ⟨#[]⟩, .bool false]) (t := 35) (Sep.setBox (cs := #[.string ⟨#[]⟩, .int .i64 0, .int .i64 0, .string ⟨#[]⟩, .bool false]) (t := 35) T3 0 rfl 0 (.string ⟨#[84, 121, 112, 101, 69, 114, 114, 111, 114]⟩)) 0 rfl 1 (.int .i64 0)) 0 rfl 2 (.int .i64 0)) 0 rfl 3 (.string ⟨#[]⟩)) 0 rfl 4 (.bool false)); (try simp only [size_drew, World.size_alloc] at T4); refine hK.out _ _ (KbaseA.out _ [_] T4) (fun hH => ?_))
                  clear hK K
                  refine wpAnyH_done (by kernel_rfl) ?_ _
                  as_aux_lemma =>
                    go_wp2_with fail
                    go_meet
                    exact ⟨_, rfl, T4⟩
                · go_simp
                  have T5 : Sep w ([boxR _ (.cells #[.string ⟨#[]⟩, .int .i64 0, .int .i64 0, .string ⟨#[]⟩, .bool false] 35)] ++ baseA) _ := Sep.alloc T1 (.cells #[.string ⟨#[]⟩, .int .i64 0, .int .i64 0, .string ⟨#[]⟩, .bool false] 35); (try simp only [size_drew, World.size_alloc] at T5); clear hH; refine hK.out _ _ (KbaseA.out _ [_] T5) (fun hH => ?_); clear hK K; refine readyT [4] ?_; refine consT (fun K hK => ?_) AllReadyH.nil; go_simp
                  go_wp2_with (go_at_call 19; refine (KM.out _ [_] T5).mono ?_; rintro e w6 ⟨rfl, T6⟩); clear hH; refine hK.out _ _ (KbaseA.out _ [_] T6) (fun hH => ?_); clear hK K; refine takeT 5 hH (hy := .inl ⟨by rfl, by (intro w hSw; try obtain ⟨u0, u1, u2, u3, u4, u5⟩ := hSw); (go_simp; try rfl)⟩) (h := ?_); simp only [Act.put, List.setIfInBounds_toArray, List.set_cons_zero, List.set_cons_succ]; refine takeT 6 hH (hy := .inl ⟨by rfl, by (intro w hSw; try obtain ⟨u0, u1, u2, u3, u4, u5⟩ := hSw); (go_simp; try rfl)⟩) (h := ?_); simp only [Act.put, List.setIfInBounds_toArray, List.set_cons_zero, List.set_cons_succ]; refine takeT 7 hH (hy := .inl ⟨by rfl, by (intro w hSw; try obtain ⟨u0, u1, u2, u3, u4, u5⟩ := hSw); (go_simp; try rfl)⟩) (h := ?_); simp only [Act.put, List.setIfInBounds_toArray, List.set_cons_zero, List.set_cons_succ]; refine takeT 9 hH (hy := .inl ⟨by rfl, by (intro w hSw; try obtain ⟨u0, u1, u2, u3, u4, u5⟩ := hSw); (go_simp; try rfl)⟩) (h := ?_); simp only [Act.put, List.setIfInBounds_toArray, List.set_cons_zero, List.set_cons_succ]; refine readyT [10] ?_; refine consT (fun K hK => ?_) AllReadyH.nil
                  have hz := T6.box 0 rfl; have z0 := cellAt hz 0 (v := .string ⟨#[]⟩) rfl; have z1 := cellAt hz 1 (v := .int .i64 0) rfl; have z2 := cellAt hz 2 (v := .int .i64 0) rfl; have z3 := cellAt hz 3 (v := .string ⟨#[]⟩) rfl; have z4 := cellAt hz 4 (v := .bool false) rfl; have z5 := frozenAt hz 0; have z6 := frozenAt hz 1; have z7 := frozenAt hz 2; have z8 := frozenAt hz 3; have z9 := frozenAt hz 4
                  (try simp only [World.cell?_drew, World.frozen?_drew] at z0 z1 z2 z3 z4 z5 z6 z7 z8 z9); go_simp; clear hz z0 z1 z2 z3 z4 z5 z6 z7 z8 z9; clear hH
                  have T7 : Sep w ([boxR _ (.cells #[.string ⟨#[84, 121, 112, 101, 69, 114, 114, 111, 114]⟩, .int .i64 0, .int .i64 0, .string ⟨#[]⟩, .bool false] 35)] ++ baseA) _ := (Sep.setBox (cs := #[.string ⟨#[84, 121, 112, 101, 69, 114, 114, 111, 114]⟩, .int .i64 0, .int .i64 0, .string ⟨#[]⟩, .bool false]) (t := 35) (Sep.setBox (cs := #[.string ⟨#[84, 121, 112, 101, 69, 114, 114, 111, 114]⟩, .int .i64 0, .int .i64 0, .string ⟨#[]⟩, .bool false]) (t := 35) (Sep.setBox (cs := #[.string ⟨#[84, 121, 112, 101, 69, 114, 114, 111, 114]⟩, .int .i64 0, .int .i64 0, .string ⟨#[]⟩, .bool false]) (t := 35) (Sep.setBox (cs := #[.string ⟨#[84, 121, 112, 101, 69, 114, 114, 111, 114]⟩, .int .i64 0, .int .i64 0, .string ⟨#[]⟩, .bool false]) (t := 35) (Sep.setBox (cs := #[.string ⟨#[]⟩, .int .i64 0, .int .i64 0, .string ⟨#[]⟩, .bool false]) (t := 35) T6 0 rfl 0 (.string ⟨#[84, 121, 112, 101, 69, 114, 114, 111, 114]⟩)) 0 rfl 1 (.int .i64 0)) 0 rfl 2 (.int .i64 0)) 0 rfl 3 (.string ⟨#[]⟩)) 0 rfl 4 (.bool false)); (try simp only [size_drew, World.size_alloc] at T7)
                  refine hK.out _ _ (KbaseA.out _ [_] T7) (fun hH => ?_); clear hK K
                  refine wpAnyH_done (by kernel_rfl) ?_ _
                  as_aux_lemma =>
                    go_wp2_with fail
                    go_meet
                    exact ⟨_, rfl, T7⟩
              · go_simp
                have T8 : Sep w ([boxR _ (.cells #[.string ⟨#[]⟩, .int .i64 0, .int .i64 0, .string ⟨#[]⟩, .bool false] 35)] ++ baseA) _ := Sep.alloc T0 (.cells #[.string ⟨#[]⟩, .int .i64 0, .int .i64 0, .string ⟨#[]⟩, .bool false] 35); (try simp only [size_drew, World.size_alloc] at T8); clear hH; refine hK.out _ _ (KbaseA.out _ [_] T8) (fun hH => ?_); clear hK K; refine readyT [3] ?_; refine consT (fun K hK => ?_) AllReadyH.nil; go_simp
                go_wp2_with (go_at_call 18; refine (KY.out _ [_] T8).mono ?_; rintro e w9 ⟨rfl, T9⟩); clear hH; refine hK.out _ _ (KbaseA.out _ [_] T9) (fun hH => ?_); clear hK K; refine readyT [4] ?_; refine consT (fun K hK => ?_) AllReadyH.nil; go_simp
                go_wp2_with (go_at_call 19; refine (KM.out _ [_] T9).mono ?_; rintro e w10 ⟨rfl, T10⟩); clear hH; refine hK.out _ _ (KbaseA.out _ [_] T10) (fun hH => ?_); clear hK K; refine takeT 5 hH (hy := .inl ⟨by rfl, by (intro w hSw; try obtain ⟨u0, u1, u2, u3, u4, u5⟩ := hSw); (go_simp; try rfl)⟩) (h := ?_); simp only [Act.put, List.setIfInBounds_toArray, List.set_cons_zero, List.set_cons_succ]; refine takeT 6 hH (hy := .inl ⟨by rfl, by (intro w hSw; try obtain ⟨u0, u1, u2, u3, u4, u5⟩ := hSw); (go_simp; try rfl)⟩) (h := ?_); simp only [Act.put, List.setIfInBounds_toArray, List.set_cons_zero, List.set_cons_succ]; refine takeT 7 hH (hy := .inl ⟨by rfl, by (intro w hSw; try obtain ⟨u0, u1, u2, u3, u4, u5⟩ := hSw); (go_simp; try rfl)⟩) (h := ?_); simp only [Act.put, List.setIfInBounds_toArray, List.set_cons_zero, List.set_cons_succ]; refine takeT 9 hH (hy := .inl ⟨by rfl, by (intro w hSw; try obtain ⟨u0, u1, u2, u3, u4, u5⟩ := hSw); (go_simp; try rfl)⟩) (h := ?_); simp only [Act.put, List.setIfInBounds_toArray, List.set_cons_zero, List.set_cons_succ]; refine readyT [10] ?_; refine consT (fun K hK => ?_) AllReadyH.nil
                have hz := T10.box 0 rfl; have z0 := cellAt hz 0 (v := .string ⟨#[]⟩) rfl; have z1 := cellAt hz 1 (v := .int .i64 0) rfl; have z2 := cellAt hz 2 (v := .int .i64 0) rfl; have z3 := cellAt hz 3 (v := .string ⟨#[]⟩) rfl; have z4 := cellAt hz 4 (v := .bool false) rfl; have z5 := frozenAt hz 0; have z6 := frozenAt hz 1; have z7 := frozenAt hz 2; have z8 := frozenAt hz 3; have z9 := frozenAt hz 4
                (try simp only [World.cell?_drew, World.frozen?_drew] at z0 z1 z2 z3 z4 z5 z6 z7 z8 z9); go_simp; clear hz z0 z1 z2 z3 z4 z5 z6 z7 z8 z9; clear hH
                have T11 : Sep w ([boxR _ (.cells #[.string ⟨#[84, 121, 112, 101, 69, 114, 114, 111, 114]⟩, .int .i64 0, .int .i64 0, .string ⟨#[]⟩, .bool false] 35)] ++ baseA) _ := (Sep.setBox (cs := #[.string ⟨#[84, 121, 112, 101, 69, 114, 114, 111, 114]⟩, .int .i64 0, .int .i64 0, .string ⟨#[]⟩, .bool false]) (t := 35) (Sep.setBox (cs := #[.string ⟨#[84, 121, 112, 101, 69, 114, 114, 111, 114]⟩, .int .i64 0, .int .i64 0, .string ⟨#[]⟩, .bool false]) (t := 35) (Sep.setBox (cs := #[.string ⟨#[84, 121, 112, 101, 69, 114, 114, 111, 114]⟩, .int .i64 0, .int .i64 0, .string ⟨#[]⟩, .bool false]) (t := 35) (Sep.setBox (cs := #[.string ⟨#[84, 121, 112, 101, 69, 114, 114, 111, 114]⟩, .int .i64 0, .int .i64 0, .string ⟨#[]⟩, .bool false]) (t := 35) (Sep.setBox (cs := #[.string ⟨#[]⟩, .int .i64 0, .int .i64 0, .string ⟨#[]⟩, .bool false]) (t := 35) T10 0 rfl 0 (.string ⟨#[84, 121, 112, 101, 69, 114, 114, 111, 114]⟩)) 0 rfl 1 (.int .i64 0)) 0 rfl 2 (.int .i64 0)) 0 rfl 3 (.string ⟨#[]⟩)) 0 rfl 4 (.bool false)); (try simp only [size_drew, World.size_alloc] at T11)
                refine hK.out _ _ (KbaseA.out _ [_] T11) (fun hH => ?_); clear hK K
                refine wpAnyH_done (by kernel_rfl) ?_ _
                as_aux_lemma =>
                  go_wp2_with fail
                  go_meet
                  exact ⟨_, rfl, T11⟩
          case rest =>
            obtain ⟨q16, rfl, S⟩ := hcut
            rw [HbaseA.out] at S; clear KY KM KbaseA HbaseA
            replace S : Sep w (boxR q16 (.cells #[.string ⟨#[84, 121, 112, 101, 69, 114, 114, 111, 114]⟩, .int .i64 0, .int .i64 0, .string ⟨#[]⟩, .bool false] 35) :: boxR q14 (.cells #[.string ⟨#[]⟩, .int .i64 0, .int .i64 0, .string ⟨#[]⟩, .bool false] 35) :: boxR q12 (.cells #[.string ⟨#[]⟩, .int .i64 0, .int .i64 0, .string ⟨#[]⟩, .bool false] 35) :: boxR q9 (.cells #[.int .i64 4, .int .i64 20, .string ⟨#[]⟩] 31) :: boxR q8 (.cells #[.int .i64 4, .int .i64 23, .string ⟨#[]⟩] 31) :: boxR q7 (.cells #[.int .i64 4, .int .i64 21, .string ⟨#[]⟩] 31) :: boxR q5 (.cells #[.int .i64 4, .int .i64 5, .string ⟨#[]⟩] 31) :: boxR q3 (.cells #[.int .i64 4, .int .i64 3, .string ⟨#[]⟩] 31) :: boxR bt (.cells #[.int .i64 4, .int .i64 19, .string ⟨#[]⟩] 31) :: heapR h B2F :: Rs) _ := S
            have d0 := cellAt (S.box (b := bt) 8 rfl) 0 (v := .int .i64 4) rfl
            have d1 := cellAt (S.box (b := bt) 8 rfl) 1 (v := .int .i64 19) rfl
            have d2 := cellAt (S.box (b := bt) 8 rfl) 2 (v := .string ⟨#[]⟩) rfl
            have M := Lib.hid (kr_kind S 9 rfl r19F _ kb19); clear S
            go_wp2_with fail
            refine M.out.mono ?_
            rintro e w6 ⟨rfl, S⟩; clear M d0 d1 d2
            replace S : Sep w (boxR q16 (.cells #[.string ⟨#[84, 121, 112, 101, 69, 114, 114, 111, 114]⟩, .int .i64 0, .int .i64 0, .string ⟨#[]⟩, .bool false] 35) :: boxR q14 (.cells #[.string ⟨#[]⟩, .int .i64 0, .int .i64 0, .string ⟨#[]⟩, .bool false] 35) :: boxR q12 (.cells #[.string ⟨#[]⟩, .int .i64 0, .int .i64 0, .string ⟨#[]⟩, .bool false] 35) :: boxR q9 (.cells #[.int .i64 4, .int .i64 20, .string ⟨#[]⟩] 31) :: boxR q8 (.cells #[.int .i64 4, .int .i64 23, .string ⟨#[]⟩] 31) :: boxR q7 (.cells #[.int .i64 4, .int .i64 21, .string ⟨#[]⟩] 31) :: boxR q5 (.cells #[.int .i64 4, .int .i64 5, .string ⟨#[]⟩] 31) :: boxR q3 (.cells #[.int .i64 4, .int .i64 3, .string ⟨#[]⟩] 31) :: boxR bt (.cells #[.int .i64 4, .int .i64 19, .string ⟨#[]⟩] 31) :: heapR h B2F :: Rs) _ := S
            have d0 := cellAt (S.box (b := q7) 5 rfl) 0 (v := .int .i64 4) rfl
            have d1 := cellAt (S.box (b := q7) 5 rfl) 1 (v := .int .i64 21) rfl
            have d2 := cellAt (S.box (b := q7) 5 rfl) 2 (v := .string ⟨#[]⟩) rfl
            have M := Lib.hid (kr_name S 9 rfl r21F ⟨#[75, 101, 121, 69, 114, 114, 111, 114]⟩ nv21); clear S
            go_wp2_with fail
            refine M.out.mono ?_
            rintro e w7 ⟨rfl, S⟩; clear M d0 d1 d2
            replace S : Sep w (boxR q16 (.cells #[.string ⟨#[84, 121, 112, 101, 69, 114, 114, 111, 114]⟩, .int .i64 0, .int .i64 0, .string ⟨#[]⟩, .bool false] 35) :: boxR q14 (.cells #[.string ⟨#[]⟩, .int .i64 0, .int .i64 0, .string ⟨#[]⟩, .bool false] 35) :: boxR q12 (.cells #[.string ⟨#[]⟩, .int .i64 0, .int .i64 0, .string ⟨#[]⟩, .bool false] 35) :: boxR q9 (.cells #[.int .i64 4, .int .i64 20, .string ⟨#[]⟩] 31) :: boxR q8 (.cells #[.int .i64 4, .int .i64 23, .string ⟨#[]⟩] 31) :: boxR q7 (.cells #[.int .i64 4, .int .i64 21, .string ⟨#[]⟩] 31) :: boxR q5 (.cells #[.int .i64 4, .int .i64 5, .string ⟨#[]⟩] 31) :: boxR q3 (.cells #[.int .i64 4, .int .i64 3, .string ⟨#[]⟩] 31) :: boxR bt (.cells #[.int .i64 4, .int .i64 19, .string ⟨#[]⟩] 31) :: heapR h B2F :: Rs) _ := S
            have d0 := cellAt (S.box (b := q9) 3 rfl) 0 (v := .int .i64 4) rfl
            have d1 := cellAt (S.box (b := q9) 3 rfl) 1 (v := .int .i64 20) rfl
            have d2 := cellAt (S.box (b := q9) 3 rfl) 2 (v := .string ⟨#[]⟩) rfl
            have M := Lib.hid (kr_items S 9 rfl b2.fit.G (by simp) r20F _ ia20); clear S
            go_wp2_with fail
            refine M.out.mono ?_
            rintro e w8 ⟨ia, ic, rfl, S⟩; clear M d0 d1 d2
            replace S : Sep w (valsR (.slice ia [oneK].length ic) [oneK] :: boxR q16 (.cells #[.string ⟨#[84, 121, 112, 101, 69, 114, 114, 111, 114]⟩, .int .i64 0, .int .i64 0, .string ⟨#[]⟩, .bool false] 35) :: boxR q14 (.cells #[.string ⟨#[]⟩, .int .i64 0, .int .i64 0, .string ⟨#[]⟩, .bool false] 35) :: boxR q12 (.cells #[.string ⟨#[]⟩, .int .i64 0, .int .i64 0, .string ⟨#[]⟩, .bool false] 35) :: boxR q9 (.cells #[.int .i64 4, .int .i64 20, .string ⟨#[]⟩] 31) :: boxR q8 (.cells #[.int .i64 4, .int .i64 23, .string ⟨#[]⟩] 31) :: boxR q7 (.cells #[.int .i64 4, .int .i64 21, .string ⟨#[]⟩] 31) :: boxR q5 (.cells #[.int .i64 4, .int .i64 5, .string ⟨#[]⟩] 31) :: boxR q3 (.cells #[.int .i64 4, .int .i64 3, .string ⟨#[]⟩] 31) :: boxR bt (.cells #[.int .i64 4, .int .i64 19, .string ⟨#[]⟩] 31) :: heapR h B2F :: Rs) _ := S
            have M := Lib.hid ((ltext_ok w8 oneS).mono fun e W1 (hh : _ ∧ _) => (⟨hh.1, S.later hh.2⟩ : _ ∧ Sep w (valsR (.slice ia [oneK].length ic) [oneK] :: boxR q16 (.cells #[.string ⟨#[84, 121, 112, 101, 69, 114, 114, 111, 114]⟩, .int .i64 0, .int .i64 0, .string ⟨#[]⟩, .bool false] 35) :: boxR q14 (.cells #[.string ⟨#[]⟩, .int .i64 0, .int .i64 0, .string ⟨#[]⟩, .bool false] 35) :: boxR q12 (.cells #[.string ⟨#[]⟩, .int .i64 0, .int .i64 0, .string ⟨#[]⟩, .bool false] 35) :: boxR q9 (.cells #[.int .i64 4, .int .i64 20, .string ⟨#[]⟩] 31) :: boxR q8 (.cells #[.int .i64 4, .int .i64 23, .string ⟨#[]⟩] 31) :: boxR q7 (.cells #[.int .i64 4, .int .i64 21, .string ⟨#[]⟩] 31) :: boxR q5 (.cells #[.int .i64 4, .int .i64 5, .string ⟨#[]⟩] 31) :: boxR q3 (.cells #[.int .i64 4, .int .i64 3, .string ⟨#[]⟩] 31) :: boxR bt (.cells #[.int .i64 4, .int .i64 19, .string ⟨#[]⟩] 31) :: heapR h B2F :: Rs) W1)); clear S
            go_wp2_with fail
            refine M.out.mono ?_
            rintro e w9 ⟨rfl, S⟩; clear M
            obtain ⟨xk, hxk⟩ : ∃ gx_, (w9.heap.size) = gx_ := ⟨_, rfl⟩
            replace S := (S.alloc (.cells #[.int .i64 3, .int .i64 0, .string ⟨#[107]⟩] 31))
            simp only [World.size_alloc, hxk] at S
            replace S : Sep w (boxR xk (.cells #[.int .i64 3, .int .i64 0, .string ⟨#[107]⟩] 31) :: valsR (.slice ia [oneK].length ic) [oneK] :: boxR q16 (.cells #[.string ⟨#[84, 121, 112, 101, 69, 114, 114, 111, 114]⟩, .int .i64 0, .int .i64 0, .string ⟨#[]⟩, .bool false] 35) :: boxR q14 (.cells #[.string ⟨#[]⟩, .int .i64 0, .int .i64 0, .string ⟨#[]⟩, .bool false] 35) :: boxR q12 (.cells #[.string ⟨#[]⟩, .int .i64 0, .int .i64 0, .string ⟨#[]⟩, .bool false] 35) :: boxR q9 (.cells #[.int .i64 4, .int .i64 20, .string ⟨#[]⟩] 31) :: boxR q8 (.cells #[.int .i64 4, .int .i64 23, .string ⟨#[]⟩] 31) :: boxR q7 (.cells #[.int .i64 4, .int .i64 21, .string ⟨#[]⟩] 31) :: boxR q5 (.cells #[.int .i64 4, .int .i64 5, .string ⟨#[]⟩] 31) :: boxR q3 (.cells #[.int .i64 4, .int .i64 3, .string ⟨#[]⟩] 31) :: boxR bt (.cells #[.int .i64 4, .int .i64 19, .string ⟨#[]⟩] 31) :: heapR h B2F :: Rs) _ := S
            have M := Lib.hid ((same_vals (w9.alloc (.cells #[.int .i64 3, .int .i64 0, .string ⟨#[107]⟩] 31)) _ _ [oneK] [oneK] ((S.row 1 rfl).sees') (seesV_oneF oneK (S.box (b := xk) 0 rfl))).mono fun e W1 hh => (⟨hh.1, by obtain ⟨n, hn⟩ := hh.2; rw [hn]; exact S.later (Below.drewN (Below.refl _ _) n)⟩ : _ ∧ Sep w (boxR xk (.cells #[.int .i64 3, .int .i64 0, .string ⟨#[107]⟩] 31) :: valsR (.slice ia [oneK].length ic) [oneK] :: boxR q16 (.cells #[.string ⟨#[84, 121, 112, 101, 69, 114, 114, 111, 114]⟩, .int .i64 0, .int .i64 0, .string ⟨#[]⟩, .bool false] 35) :: boxR q14 (.cells #[.string ⟨#[]⟩, .int .i64 0, .int .i64 0, .string ⟨#[]⟩, .bool false] 35) :: boxR q12 (.cells #[.string ⟨#[]⟩, .int .i64 0, .int .i64 0, .string ⟨#[]⟩, .bool false] 35) :: boxR q9 (.cells #[.int .i64 4, .int .i64 20, .string ⟨#[]⟩] 31) :: boxR q8 (.cells #[.int .i64 4, .int .i64 23, .string ⟨#[]⟩] 31) :: boxR q7 (.cells #[.int .i64 4, .int .i64 21, .string ⟨#[]⟩] 31) :: boxR q5 (.cells #[.int .i64 4, .int .i64 5, .string ⟨#[]⟩] 31) :: boxR q3 (.cells #[.int .i64 4, .int .i64 3, .string ⟨#[]⟩] 31) :: boxR bt (.cells #[.int .i64 4, .int .i64 19, .string ⟨#[]⟩] 31) :: heapR h B2F :: Rs) W1)); clear S
            go_wp2_with fail
            (try simp only [hxk])
            refine M.out.mono ?_
            rintro e w10 ⟨rfl, S⟩; clear M hxk
            replace S : Sep w (boxR xk (.cells #[.int .i64 3, .int .i64 0, .string ⟨#[107]⟩] 31) :: valsR (.slice ia [oneK].length ic) [oneK] :: boxR q16 (.cells #[.string ⟨#[84, 121, 112, 101, 69, 114, 114, 111, 114]⟩, .int .i64 0, .int .i64 0, .string ⟨#[]⟩, .bool false] 35) :: boxR q14 (.cells #[.string ⟨#[]⟩, .int .i64 0, .int .i64 0, .string ⟨#[]⟩, .bool false] 35) :: boxR q12 (.cells #[.string ⟨#[]⟩, .int .i64 0, .int .i64 0, .string ⟨#[]⟩, .bool false] 35) :: boxR q9 (.cells #[.int .i64 4, .int .i64 20, .string ⟨#[]⟩] 31) :: boxR q8 (.cells #[.int .i64 4, .int .i64 23, .string ⟨#[]⟩] 31) :: boxR q7 (.cells #[.int .i64 4, .int .i64 21, .string ⟨#[]⟩] 31) :: boxR q5 (.cells #[.int .i64 4, .int .i64 5, .string ⟨#[]⟩] 31) :: boxR q3 (.cells #[.int .i64 4, .int .i64 3, .string ⟨#[]⟩] 31) :: boxR bt (.cells #[.int .i64 4, .int .i64 19, .string ⟨#[]⟩] 31) :: heapR h B2F :: Rs) _ := S
            have d0 := cellAt (S.box (b := q12) 4 rfl) 0 (v := .string ⟨#[]⟩) rfl
            have d1 := cellAt (S.box (b := q12) 4 rfl) 1 (v := .int .i64 0) rfl
            have d2 := cellAt (S.box (b := q12) 4 rfl) 2 (v := .int .i64 0) rfl
            have d3 := cellAt (S.box (b := q12) 4 rfl) 3 (v := .string ⟨#[]⟩) rfl
            have d4 := cellAt (S.box (b := q12) 4 rfl) 4 (v := .bool false) rfl
            have d5 := cellAt (S.box (b := q14) 3 rfl) 0 (v := .string ⟨#[]⟩) rfl
            have d6 := cellAt (S.box (b := q14) 3 rfl) 1 (v := .int .i64 0) rfl
            have d7 := cellAt (S.box (b := q14) 3 rfl) 2 (v := .int .i64 0) rfl
            have d8 := cellAt (S.box (b := q14) 3 rfl) 3 (v := .string ⟨#[]⟩) rfl
            have d9 := cellAt (S.box (b := q14) 3 rfl) 4 (v := .bool false) rfl
            have d10 := cellAt (S.box (b := q16) 2 rfl) 0 (v := .string ⟨#[84, 121, 112, 101, 69, 114, 114, 111, 114]⟩) rfl
            have d11 := cellAt (S.box (b := q16) 2 rfl) 1 (v := .int .i64 0) rfl
            have d12 := cellAt (S.box (b := q16) 2 rfl) 2 (v := .int .i64 0) rfl
            have d13 := cellAt (S.box (b := q16) 2 rfl) 3 (v := .string ⟨#[]⟩) rfl
            have d14 := cellAt (S.box (b := q16) 2 rfl) 4 (v := .bool false) rfl
            have d15 := cellAt (S.box (b := bt) 10 rfl) 0 (v := .int .i64 4) rfl
            have d16 := cellAt (S.box (b := bt) 10 rfl) 1 (v := .int .i64 19) rfl
            have d17 := cellAt (S.box (b := bt) 10 rfl) 2 (v := .string ⟨#[]⟩) rfl
            have d18 := cellAt (S.box (b := q8) 6 rfl) 0 (v := .int .i64 4) rfl
            have d19 := cellAt (S.box (b := q8) 6 rfl) 1 (v := .int .i64 23) rfl
            have d20 := cellAt (S.box (b := q8) 6 rfl) 2 (v := .string ⟨#[]⟩) rfl
            have M := Lib.hid (kr_is S 11 rfl r23F _ is23); clear S
            go_wp2_with fail
            refine M.out.mono ?_
            rintro e w11 ⟨rfl, S⟩; clear M d0 d1 d2 d3 d4 d5 d6 d7 d8 d9 d10 d11 d12 d13 d14 d15 d16 d17 d18 d19 d20
            replace S : Sep w (boxR xk (.cells #[.int .i64 3, .int .i64 0, .string ⟨#[107]⟩] 31) :: valsR (.slice ia [oneK].length ic) [oneK] :: boxR q16 (.cells #[.string ⟨#[84, 121, 112, 101, 69, 114, 114, 111, 114]⟩, .int .i64 0, .int .i64 0, .string ⟨#[]⟩, .bool false] 35) :: boxR q14 (.cells #[.string ⟨#[]⟩, .int .i64 0, .int .i64 0, .string ⟨#[]⟩, .bool false] 35) :: boxR q12 (.cells #[.string ⟨#[]⟩, .int .i64 0, .int .i64 0, .string ⟨#[]⟩, .bool false] 35) :: boxR q9 (.cells #[.int .i64 4, .int .i64 20, .string ⟨#[]⟩] 31) :: boxR q8 (.cells #[.int .i64 4, .int .i64 23, .string ⟨#[]⟩] 31) :: boxR q7 (.cells #[.int .i64 4, .int .i64 21, .string ⟨#[]⟩] 31) :: boxR q5 (.cells #[.int .i64 4, .int .i64 5, .string ⟨#[]⟩] 31) :: boxR q3 (.cells #[.int .i64 4, .int .i64 3, .string ⟨#[]⟩] 31) :: boxR bt (.cells #[.int .i64 4, .int .i64 19, .string ⟨#[]⟩] 31) :: heapR h B2F :: Rs) _ := S
            have d0 := cellAt (S.box (b := bt) 10 rfl) 0 (v := .int .i64 4) rfl
            have d1 := cellAt (S.box (b := bt) 10 rfl) 1 (v := .int .i64 19) rfl
            have d2 := cellAt (S.box (b := bt) 10 rfl) 2 (v := .string ⟨#[]⟩) rfl
            have d3 := cellAt (S.box (b := q3) 9 rfl) 0 (v := .int .i64 4) rfl
            have d4 := cellAt (S.box (b := q3) 9 rfl) 1 (v := .int .i64 3) rfl
            have d5 := cellAt (S.box (b := q3) 9 rfl) 2 (v := .string ⟨#[]⟩) rfl
            have M := Lib.hid (kr_iscls S 11 rfl r3F _ ic3); clear S
            go_wp2_with fail
            refine M.out.mono ?_
            rintro e w12 ⟨rfl, S⟩; clear M d0 d1 d2 d3 d4 d5
            replace S : Sep w (boxR xk (.cells #[.int .i64 3, .int .i64 0, .string ⟨#[107]⟩] 31) :: valsR (.slice ia [oneK].length ic) [oneK] :: boxR q16 (.cells #[.string ⟨#[84, 121, 112, 101, 69, 114, 114, 111, 114]⟩, .int .i64 0, .int .i64 0, .string ⟨#[]⟩, .bool false] 35) :: boxR q14 (.cells #[.string ⟨#[]⟩, .int .i64 0, .int .i64 0, .string ⟨#[]⟩, .bool false] 35) :: boxR q12 (.cells #[.string ⟨#[]⟩, .int .i64 0, .int .i64 0, .string ⟨#[]⟩, .bool false] 35) :: boxR q9 (.cells #[.int .i64 4, .int .i64 20, .string ⟨#[]⟩] 31) :: boxR q8 (.cells #[.int .i64 4, .int .i64 23, .string ⟨#[]⟩] 31) :: boxR q7 (.cells #[.int .i64 4, .int .i64 21, .string ⟨#[]⟩] 31) :: boxR q5 (.cells #[.int .i64 4, .int .i64 5, .string ⟨#[]⟩] 31) :: boxR q3 (.cells #[.int .i64 4, .int .i64 3, .string ⟨#[]⟩] 31) :: boxR bt (.cells #[.int .i64 4, .int .i64 19, .string ⟨#[]⟩] 31) :: heapR h B2F :: Rs) _ := S
            have d0 := cellAt (S.box (b := bt) 10 rfl) 0 (v := .int .i64 4) rfl
            have d1 := cellAt (S.box (b := bt) 10 rfl) 1 (v := .int .i64 19) rfl
            have d2 := cellAt (S.box (b := bt) 10 rfl) 2 (v := .string ⟨#[]⟩) rfl
            have d3 := cellAt (S.box (b := q8) 6 rfl) 0 (v := .int .i64 4) rfl
            have d4 := cellAt (S.box (b := q8) 6 rfl) 1 (v := .int .i64 23) rfl
            have d5 := cellAt (S.box (b := q8) 6 rfl) 2 (v := .string ⟨#[]⟩) rfl
            have M := Lib.hid (kr_iscls S 11 rfl r23F _ ic23); clear S
            go_wp2_with fail
            refine M.out.mono ?_
            rintro e w13 ⟨rfl, S⟩; clear M d0 d1 d2 d3 d4 d5
            replace S : Sep w (boxR xk (.cells #[.int .i64 3, .int .i64 0, .string ⟨#[107]⟩] 31) :: valsR (.slice ia [oneK].length ic) [oneK] :: boxR q16 (.cells #[.string ⟨#[84, 121, 112, 101, 69, 114, 114, 111, 114]⟩, .int .i64 0, .int .i64 0, .string ⟨#[]⟩, .bool false] 35) :: boxR q14 (.cells #[.string ⟨#[]⟩, .int .i64 0, .int .i64 0, .string ⟨#[]⟩, .bool false] 35) :: boxR q12 (.cells #[.string ⟨#[]⟩, .int .i64 0, .int .i64 0, .string ⟨#[]⟩, .bool false] 35) :: boxR q9 (.cells #[.int .i64 4, .int .i64 20, .string ⟨#[]⟩] 31) :: boxR q8 (.cells #[.int .i64 4, .int .i64 23, .string ⟨#[]⟩] 31) :: boxR q7 (.cells #[.int .i64 4, .int .i64 21, .string ⟨#[]⟩] 31) :: boxR q5 (.cells #[.int .i64 4, .int .i64 5, .string ⟨#[]⟩] 31) :: boxR q3 (.cells #[.int .i64 4, .int .i64 3, .string ⟨#[]⟩] 31) :: boxR bt (.cells #[.int .i64 4, .int .i64 19, .string ⟨#[]⟩] 31) :: heapR h B2F :: Rs) _ := S
            have M := Lib.hid (kr_base S HGL.out); clear S
            go_wp2_with fail
            refine M.out.mono ?_
            rintro e w14 ⟨rfl, S⟩; clear M
            replace S : Sep w (boxR xk (.cells #[.int .i64 3, .int .i64 0, .string ⟨#[107]⟩] 31) :: valsR (.slice ia [oneK].length ic) [oneK] :: boxR q16 (.cells #[.string ⟨#[84, 121, 112, 101, 69, 114, 114, 111, 114]⟩, .int .i64 0, .int .i64 0, .string ⟨#[]⟩, .bool false] 35) :: boxR q14 (.cells #[.string ⟨#[]⟩, .int .i64 0, .int .i64 0, .string ⟨#[]⟩, .bool false] 35) :: boxR q12 (.cells #[.string ⟨#[]⟩, .int .i64 0, .int .i64 0, .string ⟨#[]⟩, .bool false] 35) :: boxR q9 (.cells #[.int .i64 4, .int .i64 20, .string ⟨#[]⟩] 31) :: boxR q8 (.cells #[.int .i64 4, .int .i64 23, .string ⟨#[]⟩] 31) :: boxR q7 (.cells #[.int .i64 4, .int .i64 21, .string ⟨#[]⟩] 31) :: boxR q5 (.cells #[.int .i64 4, .int .i64 5, .string ⟨#[]⟩] 31) :: boxR q3 (.cells #[.int .i64 4, .int .i64 3, .string ⟨#[]⟩] 31) :: boxR bt (.cells #[.int .i64 4, .int .i64 19, .string ⟨#[]⟩] 31) :: heapR h B2F :: Rs) _ := S
            have d0 := cellAt (S.box (b := bt) 10 rfl) 0 (v := .int .i64 4) rfl
            have d1 := cellAt (S.box (b := bt) 10 rfl) 1 (v := .int .i64 19) rfl
            have d2 := cellAt (S.box (b := bt) 10 rfl) 2 (v := .string ⟨#[]⟩) rfl
            have M := Lib.hid (kr_make3 S 11 rfl); clear S
            go_wp2_with fail
            refine M.out.mono ?_
            rintro e w15 ⟨rfl, S⟩; clear M d0 d1 d2
            replace S : Sep w (boxR xk (.cells #[.int .i64 3, .int .i64 0, .string ⟨#[107]⟩] 31) :: valsR (.slice ia [oneK].length ic) [oneK] :: boxR q16 (.cells #[.string ⟨#[84, 121, 112, 101, 69, 114, 114, 111, 114]⟩, .int .i64 0, .int .i64 0, .string ⟨#[]⟩, .bool false] 35) :: boxR q14 (.cells #[.string ⟨#[]⟩, .int .i64 0, .int .i64 0, .string ⟨#[]⟩, .bool false] 35) :: boxR q12 (.cells #[.string ⟨#[]⟩, .int .i64 0, .int .i64 0, .string ⟨#[]⟩, .bool false] 35) :: boxR q9 (.cells #[.int .i64 4, .int .i64 20, .string ⟨#[]⟩] 31) :: boxR q8 (.cells #[.int .i64 4, .int .i64 23, .string ⟨#[]⟩] 31) :: boxR q7 (.cells #[.int .i64 4, .int .i64 21, .string ⟨#[]⟩] 31) :: boxR q5 (.cells #[.int .i64 4, .int .i64 5, .string ⟨#[]⟩] 31) :: boxR q3 (.cells #[.int .i64 4, .int .i64 3, .string ⟨#[]⟩] 31) :: boxR bt (.cells #[.int .i64 4, .int .i64 19, .string ⟨#[]⟩] 31) :: heapR h B2F :: Rs) _ := S
            replace S := Lib.hid (S.tail.tail.tail.tail.tail.tail.tail.tail.tail.tail.tail.tail)
            go_wp2
            go_ret
            exact ⟨rfl, S.out⟩
end
end Go.Proofs.YtobcnffjfclolaaDoor
