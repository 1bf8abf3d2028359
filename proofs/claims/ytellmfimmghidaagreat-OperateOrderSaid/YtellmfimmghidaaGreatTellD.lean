/- ch 16: tell's closures. -/
import Derived.Test.YtellmfimmghidaaGreatTellC
import Derived.Test.YtellmfimmghidaaGreatRegI
namespace Go.Proofs.YtellmfimmghidaaGreat
set_option linter.unusedSimpArgs false
open Go.RowKit
set_option linter.unusedVariables false
abbrev ptB (b t : Nat) : Res := boxR b (.cells #[.pointer (some ⟨t, 0, none⟩)] 101)
abbrev inB (b : Nat) (d : Int) : Res := boxR b (.cells #[.int .i64 d] 3)
abbrev slV (b : Nat) (v : Value) : Res := boxR b (.cells #[v] 22)
abbrev fnB (b : Nat) (v : Value) : Res := boxR b (.cells #[v] 137)
theorem Sep.front {w W : World} {A Rs : List Res} {R : Res} (S : Sep w (A ++ R :: Rs) W) : Sep w (R :: (A ++ Rs)) W := S.perm List.perm_middle
theorem HeapM.tellF_out {H : HeapM} : ∀ (f : Nat) (v : V) (T : TelM), T.out.length ≤ 65536 → (H.tellF f v T).out.length ≤ 65536 := by
  have hp : ∀ (l : List (TelM → TelM)) (first : Bool) (T : TelM), (∀ p ∈ l, ∀ T : TelM, T.out.length ≤ 65536 → (p T).out.length ≤ 65536) → T.out.length ≤ 65536 → (partsF first l T).out.length ≤ 65536 := by
    intro l
    induction l with
    | nil => intro first T _ hT; exact hT
    | cons p l ih =>
      intro first T hl hT
      refine ih false _ (fun q hq => hl q (by simp [hq])) (hl p (by simp) _ ?_)
      split
      · exact hT
      · exact TelM.say_out _ hT
  have hr : ∀ (o c : List UInt8) (l : List (TelM → TelM)) (T : TelM), (∀ p ∈ l, ∀ T : TelM, T.out.length ≤ 65536 → (p T).out.length ≤ 65536) → T.out.length ≤ 65536 → (rowF o c l T).out.length ≤ 65536 := fun o c l T hl hT => TelM.say_out _ (hp l true _ hl (TelM.say_out _ hT))
  have ht : ∀ (v : V) (T r : TelM), T.out.length ≤ 65536 → r.out.length ≤ 65536 → (H.tellT v T r).out.length ≤ 65536 := fun v T r h1 h2 => by
    unfold HeapM.tellT
    split
    · split
      · exact TelM.say_out _ h1
      · exact h2
    · exact h1
  intro f
  induction f with
  | zero => intro v T hT; exact ht v T _ hT hT
  | succ f ih =>
    intro v T hT
    refine ht v T _ hT ?_
    split
    · exact hr _ _ _ _ (fun p hp => by obtain ⟨x, _, rfl⟩ := List.mem_map.1 hp; exact fun T hT => ih x T hT) hT
    · split
      · exact hr _ _ _ _ (fun p hp => by obtain ⟨x, _, rfl⟩ := List.mem_map.1 hp; exact fun T hT => ih x T hT) hT
      · exact hr _ _ _ _ (fun p hp => by obtain ⟨x, _, rfl⟩ := List.mem_map.1 hp; exact fun T hT => ih _ _ (TelM.say_out _ (ih _ _ hT))) hT
section
variable {w W : World} {Rs : List Res} {t h f : Nat} {H : HeapM} {T : TelM} {P : V → Prop}
set_option maxRecDepth 100000 in
set_option maxHeartbeats 4000000 in
theorem tell1_ok (IH : ∀ {Rs : List Res} {W : World} {T : TelM} (S : Sep w (tellR t h T :: Rs) W) (i : Nat) (hi : Rs[i]? = some (heapR h H)) (hT : T.out.length ≤ 65536) (v : V) (hv : P v) (d : Int) (hd : d + f = 30) (hd0 : 0 ≤ d),
      Calls Tryz.prog 56 #[.pointer (some ⟨t, 0, none⟩), .agg #[.int .i64 v.kind, .int .i64 v.n, .string v.s], .int .i64 d] W fun e W' => e = .returned (.tuple #[]) ∧ Sep w (tellR t h (H.tellF f v T) :: Rs) W')
    (i : Nat) (hi : Rs[i]? = some (heapR h H)) (b q5 q6 : Nat) (la : Option Addr) (lc : Nat) (l : List V) (d : Int) (hd : d + 1 + f = 30) (hd0 : 0 ≤ d + 1)
    (i1 : Nat) (h1 : Rs[i1]? = some (ptB b t)) (i2 : Nat) (h2 : Rs[i2]? = some (slV q6 (.slice la l.length lc))) (i3 : Nat) (h3 : Rs[i3]? = some (inB q5 d)) (i4 : Nat) (h4 : Rs[i4]? = some (valsR (.slice la l.length lc) l))
    (k : Nat) (x : V) (hx : l[k]? = some x) (hv : P x) (S : Sep w (tellR t h T :: Rs) W) (hT : T.out.length ≤ 65536) :
    Calls Tryz.prog 102 #[.int .i64 k, .pointer (some ⟨b, 0, none⟩), .pointer (some ⟨q6, 0, none⟩), .pointer (some ⟨q5, 0, none⟩)] W fun e W' => e = .returned (.tuple #[]) ∧ Sep w (tellR t h (H.tellF f x T) :: Rs) W' := by
  obtain ⟨g, og, rfl, -⟩ := (S.row (i4 + 1) (by simpa using h4)).sees'.three hx
  have KB : Hid (∀ W (Q : List Res) (T : TelM), Sep w (tellR t h T :: Rs) W → W.cell? ⟨b, 0, none⟩ = some (.pointer (some ⟨t, 0, none⟩)) ∧ W.cell? ⟨q6, 0, none⟩ = some (.slice (some ⟨g, og, none⟩) l.length lc) ∧ W.cell? ⟨q5, 0, none⟩ = some (.int .i64 d) ∧ W.cell? ⟨g, og + k * 3, none⟩ = some (.int .i64 x.kind) ∧ W.cell? ⟨g, og + k * 3 + 1, none⟩ = some (.int .i64 x.n) ∧ W.cell? ⟨g, og + k * 3 + 2, none⟩ = some (.string x.s)) := Lib.hid fun W Q T S =>
    ⟨cellAt (S.box (i1 + 1) (by simpa using h1)) 0 rfl, cellAt (S.box (i2 + 1) (by simpa using h2)) 0 rfl, cellAt (S.box (i3 + 1) (by simpa using h3)) 0 rfl, sepThree S (i4 + 1) (by simpa using h4) hx⟩
  have hkl : (k : Int) < l.length := by have := (List.getElem?_eq_some_iff.1 hx).1; omega
  have hk0 : (0 : Int) ≤ k := by omega
  have hwr : IntKind.i64.wrap (d + 1) = d + 1 := IntWalk.i64_in _ (by omega)
  have KT : Hid (∀ W, Sep w (tellR t h T :: Rs) W → Calls Tryz.prog 56 #[.pointer (some ⟨t, 0, none⟩), .agg #[.int .i64 x.kind, .int .i64 x.n, .string x.s], .int .i64 (d + 1)] W fun e W' => e = .returned (.tuple #[]) ∧ Sep w (tellR t h (H.tellF f x T) :: Rs) W') := Lib.hid fun W S => IH S i hi hT x hv (d + 1) hd hd0
  have T0 := S.drew
  clear S IH hi h1 h2 h3 h4 hx hv hd hd0
  go_enter Tryz.func102, Tryz.ntmps102
  refine wp_region_held_drew (S := fun W => W.cell? ⟨b, 0, none⟩ = some (.pointer (some ⟨t, 0, none⟩)) ∧ W.cell? ⟨q6, 0, none⟩ = some (.slice (some ⟨g, og, none⟩) l.length lc) ∧ W.cell? ⟨q5, 0, none⟩ = some (.int .i64 d) ∧ W.cell? ⟨g, og + k * 3, none⟩ = some (.int .i64 x.kind) ∧ W.cell? ⟨g, og + k * 3 + 1, none⟩ = some (.int .i64 x.n) ∧ W.cell? ⟨g, og + k * 3 + 2, none⟩ = some (.string x.s)) (by kernel_rfl) (KB.out _ [] _ T0) (fun hH => ?_)
  refine takeT 0 hH (hy := .inl ⟨by rfl, by (intro w hSw; try obtain ⟨u0, u1, u2, u3, u4, u5⟩ := hSw); (go_simp; try rfl)⟩) (h := ?_)
  simp only [Act.put, List.setIfInBounds_toArray, List.set_cons_zero, List.set_cons_succ]
  refine takeT 1 hH (hy := .inl ⟨by rfl, by (intro w hSw; try obtain ⟨u0, u1, u2, u3, u4, u5⟩ := hSw); (go_simp; try rfl)⟩) (h := ?_)
  simp only [Act.put, List.setIfInBounds_toArray, List.set_cons_zero, List.set_cons_succ]
  refine takeT 2 hH (hy := .inl ⟨by rfl, by (intro w hSw; try obtain ⟨u0, u1, u2, u3, u4, u5⟩ := hSw); (go_simp; try rfl)⟩) (h := ?_)
  simp only [Act.put, List.setIfInBounds_toArray, List.set_cons_zero, List.set_cons_succ]
  refine takeT 3 hH (hy := .inl ⟨by rfl, by (intro w hSw; try obtain ⟨u0, u1, u2, u3, u4, u5⟩ := hSw); (go_simp; try rfl)⟩) (h := ?_)
  simp only [Act.put, List.setIfInBounds_toArray, List.set_cons_zero, List.set_cons_succ]
  refine takeT 4 hH (hy := .inl ⟨by rfl, by (intro w hSw; try obtain ⟨u0, u1, u2, u3, u4, u5⟩ := hSw); (go_simp; try rfl)⟩) (h := ?_)
  simp only [Act.put, List.setIfInBounds_toArray, List.set_cons_zero, List.set_cons_succ]
  refine takeT 5 hH (hy := .inl ⟨by rfl, by (intro w hSw; try obtain ⟨u0, u1, u2, u3, u4, u5⟩ := hSw); (go_simp; try rfl)⟩) (h := ?_)
  simp only [Act.put, List.setIfInBounds_toArray, List.set_cons_zero, List.set_cons_succ]
  refine takeT 6 hH (hy := .inl ⟨by rfl, by (intro w hSw; try obtain ⟨u0, u1, u2, u3, u4, u5⟩ := hSw); (go_simp; try rfl)⟩) (h := ?_)
  simp only [Act.put, List.setIfInBounds_toArray, List.set_cons_zero, List.set_cons_succ]
  refine readyT [7] ?_
  refine consT (fun K hK => ?_) AllReadyH.nil
  go_simp
  go_wp2_with (go_at_call 56; refine (KT.out _ T0).mono ?_; rintro e w1 ⟨rfl, T1⟩)
  clear hH
  refine hK.out _ _ (KB.out _ [] _ T1) (fun hH => ?_)
  clear hK K
  refine wpAnyH_done (by kernel_rfl) ?_ _
  as_aux_lemma =>
    go_wp2_with fail
    first | go_end0 | go_returns
    exact ⟨rfl, T1⟩
set_option maxRecDepth 100000 in
set_option maxHeartbeats 4000000 in
theorem tell2_ok (IH : ∀ {Rs : List Res} {W : World} {T : TelM} (S : Sep w (tellR t h T :: Rs) W) (i : Nat) (hi : Rs[i]? = some (heapR h H)) (hT : T.out.length ≤ 65536) (v : V) (hv : P v) (d : Int) (hd : d + f = 30) (hd0 : 0 ≤ d),
      Calls Tryz.prog 56 #[.pointer (some ⟨t, 0, none⟩), .agg #[.int .i64 v.kind, .int .i64 v.n, .string v.s], .int .i64 d] W fun e W' => e = .returned (.tuple #[]) ∧ Sep w (tellR t h (H.tellF f v T) :: Rs) W')
    (i : Nat) (hi : Rs[i]? = some (heapR h H)) (b q4 q5 q6 q7 : Nat) (v : V) (la : Option Addr) (lc : Nat) (l : List V) (d : Int) (hd : d + 1 + f = 30) (hd0 : 0 ≤ d + 1)
    (i1 : Nat) (h1 : Rs[i1]? = some (ptB b t)) (i2 : Nat) (h2 : Rs[i2]? = some (slV q6 (.slice la l.length lc))) (i3 : Nat) (h3 : Rs[i3]? = some (inB q5 d)) (i4 : Nat) (h4 : Rs[i4]? = some (valsR (.slice la l.length lc) l))
    (i5 : Nat) (h5 : Rs[i5]? = some (boxR q4 (.cells #[.int .i64 v.kind, .int .i64 v.n, .string v.s] 29))) (i6 : Nat) (h6 : Rs[i6]? = some (fnB q7 (.func (.func 102) #[] #[.pointer (some ⟨b, 0, none⟩), .pointer (some ⟨q6, 0, none⟩), .pointer (some ⟨q5, 0, none⟩)])))
    (k : Nat) (x y : V) (hx : l[k]? = some x) (hv : P x) (hy : (H.get v x).getD V.zero = y) (hv2 : P y) (S : Sep w (tellR t h T :: Rs) W) (hT : T.out.length ≤ 65536) :
    Calls Tryz.prog 105 #[.int .i64 k, .pointer (some ⟨b, 0, none⟩), .pointer (some ⟨q4, 0, none⟩), .pointer (some ⟨q6, 0, none⟩), .pointer (some ⟨q7, 0, none⟩), .pointer (some ⟨q5, 0, none⟩)] W fun e W' => e = .returned (.tuple #[]) ∧ Sep w (tellR t h (H.tellF f y ((H.tellF f x T).say [58, 32])) :: Rs) W' := by
  obtain ⟨g, og, rfl, -⟩ := (S.row (i4 + 1) (by simpa using h4)).sees'.three hx
  obtain ⟨baseA, hbaseA⟩ : ∃ base, base = tellR t h T :: Rs := ⟨_, rfl⟩
  have HbaseA := Lib.hid hbaseA
  have KB : Hid (∀ W (Q : List Res), Sep w (Q ++ baseA) W → W.cell? ⟨b, 0, none⟩ = some (.pointer (some ⟨t, 0, none⟩)) ∧ W.cell? ⟨q6, 0, none⟩ = some (.slice (some ⟨g, og, none⟩) l.length lc) ∧ W.cell? ⟨g, og + k * 3, none⟩ = some (.int .i64 x.kind) ∧ W.cell? ⟨g, og + k * 3 + 1, none⟩ = some (.int .i64 x.n) ∧ W.cell? ⟨g, og + k * 3 + 2, none⟩ = some (.string x.s) ∧ W.cell? ⟨q4, 0, none⟩ = some (.int .i64 v.kind) ∧ W.cell? ⟨q4, 1, none⟩ = some (.int .i64 v.n) ∧ W.cell? ⟨q4, 2, none⟩ = some (.string v.s) ∧ W.cell? ⟨t, 0, none⟩ = some (.pointer (some ⟨h, 0, none⟩))) := Lib.hid fun W Q S => by
    rw [hbaseA] at S
    have hj : ∀ {j : Nat} {R : Res}, Rs[j]? = some R → (Q ++ tellR t h T :: Rs)[Q.length + (j + 1)]? = some R := fun hh => by rw [List.getElem?_append_right (by omega), Nat.add_sub_cancel_left]; simpa using hh
    obtain ⟨p, vq, _, e2, _⟩ := S.telB Q.length (by rw [List.getElem?_append_right (by omega), Nat.sub_self]; rfl)
    obtain ⟨a1, a2, a3⟩ := sepThree S _ (hj h4) hx
    have c4 := S.box _ (hj h5)
    exact ⟨cellAt (S.box _ (hj h1)) 0 rfl, cellAt (S.box _ (hj h2)) 0 rfl, a1, a2, a3, cellAt c4 0 rfl, cellAt c4 1 rfl, cellAt c4 2 rfl, cellAt e2 0 rfl⟩
  have KG : Hid (∀ W (Q : List Res), Sep w (Q ++ baseA) W → Calls Tryz.prog 43 #[.pointer (some ⟨h, 0, none⟩), .agg #[.int .i64 v.kind, .int .i64 v.n, .string v.s], .agg #[.int .i64 x.kind, .int .i64 x.n, .string x.s]] W fun e W' => e = .returned (.tuple #[.agg #[.int .i64 y.kind, .int .i64 y.n, .string y.s], .bool (H.get v x).isSome]) ∧ Sep w (Q ++ baseA) W') := Lib.hid fun W Q S => by
    rw [hbaseA] at S ⊢
    exact get_at S (Q.length + (i + 1)) (by rw [List.getElem?_append_right (by omega), Nat.add_sub_cancel_left]; simpa using hi) v x y _ hy rfl
  have hkl : (k : Int) < l.length := by have := (List.getElem?_eq_some_iff.1 hx).1; omega
  have hk0 : (0 : Int) ≤ k := by omega
  have hwr : IntKind.i64.wrap (d + 1) = d + 1 := IntWalk.i64_in _ (by omega)
  have K1 : Hid (∀ (qx : Nat) (cs : Array Value) (W : World), Sep w (tellR t h T :: boxR qx (.cells cs 29) :: Rs) W → Calls Tryz.prog 102 #[.int .i64 k, .pointer (some ⟨b, 0, none⟩), .pointer (some ⟨q6, 0, none⟩), .pointer (some ⟨q5, 0, none⟩)] W fun e W' => e = .returned (.tuple #[]) ∧ Sep w (tellR t h (H.tellF f x T) :: boxR qx (.cells cs 29) :: Rs) W') := Lib.hid fun qx cs W S =>
    tell1_ok IH (i + 1) (by simpa using hi) b q5 q6 _ lc l d hd hd0 (i1 + 1) (by simpa using h1) (i2 + 1) (by simpa using h2) (i3 + 1) (by simpa using h3) (i4 + 1) (by simpa using h4) k x hx hv S hT
  have KT : Hid (∀ (T2 : TelM) (qx : Nat) (cs : Array Value) (W : World), T2.out.length ≤ 65536 → Sep w (tellR t h T2 :: boxR qx (.cells cs 29) :: Rs) W → Calls Tryz.prog 56 #[.pointer (some ⟨t, 0, none⟩), .agg #[.int .i64 y.kind, .int .i64 y.n, .string y.s], .int .i64 (d + 1)] W fun e W' => e = .returned (.tuple #[]) ∧ Sep w (tellR t h (H.tellF f y T2) :: boxR qx (.cells cs 29) :: Rs) W') := Lib.hid fun T2 qx cs W hT2 S => IH S (i + 1) (by simpa using hi) hT2 y hv2 (d + 1) hd hd0
  have HT := Lib.hid hT
  have HJ := Lib.hid (And.intro h1 (And.intro h3 h6))
  replace S : Hid (Sep w ([] ++ baseA) W.drew) := Lib.hid (by rw [hbaseA]; exact S.drew)
  clear IH hi h1 h2 h3 h4 h5 h6 hx hv hv2 hy hd hd0 hbaseA hT
  go_enter Tryz.func105, Tryz.ntmps105
  go_upto_region 0 with fail
  go_cut [7] (fun s7 wx => ∃ qx, s7 = .pointer (some ⟨qx, 0, none⟩) ∧ Sep w ([boxR qx (.cells #[.int .i64 y.kind, .int .i64 y.n, .string y.s] 29)] ++ baseA) wx)
  case first =>
    have T0 := S.out
    clear S
    refine wp_region_held_drew (S := fun W => W.cell? ⟨b, 0, none⟩ = some (.pointer (some ⟨t, 0, none⟩)) ∧ W.cell? ⟨q6, 0, none⟩ = some (.slice (some ⟨g, og, none⟩) l.length lc) ∧ W.cell? ⟨g, og + k * 3, none⟩ = some (.int .i64 x.kind) ∧ W.cell? ⟨g, og + k * 3 + 1, none⟩ = some (.int .i64 x.n) ∧ W.cell? ⟨g, og + k * 3 + 2, none⟩ = some (.string x.s) ∧ W.cell? ⟨q4, 0, none⟩ = some (.int .i64 v.kind) ∧ W.cell? ⟨q4, 1, none⟩ = some (.int .i64 v.n) ∧ W.cell? ⟨q4, 2, none⟩ = some (.string v.s) ∧ W.cell? ⟨t, 0, none⟩ = some (.pointer (some ⟨h, 0, none⟩))) (by kernel_rfl) (KB.out _ [] T0) (fun hH => ?_)
    refine takeT 0 hH (hy := .inl ⟨by rfl, by (intro w hSw; try obtain ⟨u0, u1, u2, u3, u4, u5, u6, u7, u8⟩ := hSw); (go_simp; try rfl)⟩) (h := ?_)
    simp only [Act.put, List.setIfInBounds_toArray, List.set_cons_zero, List.set_cons_succ]
    refine takeT 1 hH (hy := .inl ⟨by rfl, by (intro w hSw; try obtain ⟨u0, u1, u2, u3, u4, u5, u6, u7, u8⟩ := hSw); (go_simp; try rfl)⟩) (h := ?_)
    simp only [Act.put, List.setIfInBounds_toArray, List.set_cons_zero, List.set_cons_succ]
    refine takeT 2 hH (hy := .inl ⟨by rfl, by (intro w hSw; try obtain ⟨u0, u1, u2, u3, u4, u5, u6, u7, u8⟩ := hSw); (go_simp; try rfl)⟩) (h := ?_)
    simp only [Act.put, List.setIfInBounds_toArray, List.set_cons_zero, List.set_cons_succ]
    refine takeT 3 hH (hy := .inl ⟨by rfl, by (intro w hSw; try obtain ⟨u0, u1, u2, u3, u4, u5, u6, u7, u8⟩ := hSw); (go_simp; try rfl)⟩) (h := ?_)
    simp only [Act.put, List.setIfInBounds_toArray, List.set_cons_zero, List.set_cons_succ]
    refine takeT 4 hH (hy := .inl ⟨by rfl, by (intro w hSw; try obtain ⟨u0, u1, u2, u3, u4, u5, u6, u7, u8⟩ := hSw); (go_simp; try rfl)⟩) (h := ?_)
    simp only [Act.put, List.setIfInBounds_toArray, List.set_cons_zero, List.set_cons_succ]
    refine takeT 5 hH (hy := .inl ⟨by rfl, by (intro w hSw; try obtain ⟨u0, u1, u2, u3, u4, u5, u6, u7, u8⟩ := hSw); (go_simp; try rfl)⟩) (h := ?_)
    simp only [Act.put, List.setIfInBounds_toArray, List.set_cons_zero, List.set_cons_succ]
    refine takeT 6 hH (hy := .inl ⟨by rfl, by (intro w hSw; try obtain ⟨u0, u1, u2, u3, u4, u5, u6, u7, u8⟩ := hSw); (go_simp; try rfl)⟩) (h := ?_)
    simp only [Act.put, List.setIfInBounds_toArray, List.set_cons_zero, List.set_cons_succ]
    refine takeT 7 hH (hy := .inl ⟨by rfl, by (intro w hSw; try obtain ⟨u0, u1, u2, u3, u4, u5, u6, u7, u8⟩ := hSw); (go_simp; try rfl)⟩) (h := ?_)
    simp only [Act.put, List.setIfInBounds_toArray, List.set_cons_zero, List.set_cons_succ]
    refine takeT 8 hH (hy := .inl ⟨by rfl, by (intro w hSw; try obtain ⟨u0, u1, u2, u3, u4, u5, u6, u7, u8⟩ := hSw); (go_simp; try rfl)⟩) (h := ?_)
    simp only [Act.put, List.setIfInBounds_toArray, List.set_cons_zero, List.set_cons_succ]
    refine readyT [9, 13] ?_
    refine consT (fun K hK => ?_) (consT (fun K hK => ?_) AllReadyH.nil)
    · go_simp
      go_wp2_with (go_at_call 43; refine (KG.out _ [] T0).mono ?_; rintro e w1 ⟨rfl, T1⟩)
      clear hH
      refine hK.out _ _ (KB.out _ [] T1) (fun hH => ?_)
      clear hK K
      refine takeT 10 hH (hy := .inl ⟨by rfl, by (intro w hSw; try obtain ⟨u0, u1, u2, u3, u4, u5, u6, u7, u8⟩ := hSw); (go_simp; try rfl)⟩) (h := ?_)
      simp only [Act.put, List.setIfInBounds_toArray, List.set_cons_zero, List.set_cons_succ]
      refine takeT 11 hH (hy := .inl ⟨by rfl, by (intro w hSw; try obtain ⟨u0, u1, u2, u3, u4, u5, u6, u7, u8⟩ := hSw); (go_simp; try rfl)⟩) (h := ?_)
      simp only [Act.put, List.setIfInBounds_toArray, List.set_cons_zero, List.set_cons_succ]
      refine takeT 12 hH (hy := .inl ⟨by rfl, by (intro w hSw; try obtain ⟨u0, u1, u2, u3, u4, u5, u6, u7, u8⟩ := hSw); (go_simp; try rfl)⟩) (h := ?_)
      simp only [Act.put, List.setIfInBounds_toArray, List.set_cons_zero, List.set_cons_succ]
      refine readyT [13] ?_
      refine consT (fun K hK => ?_) AllReadyH.nil
      go_simp
      have T2 : Sep w ([boxR _ (.cells #[.int .i64 0, .int .i64 0, .string ⟨#[]⟩] 29)] ++ baseA) _ := Sep.alloc T1 (.cells #[.int .i64 0, .int .i64 0, .string ⟨#[]⟩] 29)
      try simp only [size_drew, World.size_alloc] at T2
      clear hH
      refine hK.out _ _ (KB.out _ [_] T2) (fun hH => ?_)
      clear hK K
      refine readyT [14] ?_
      refine consT (fun K hK => ?_) AllReadyH.nil
      have hz := T2.box 0 rfl
      have z0 := cellAt hz 0 (v := .int .i64 0) rfl
      have z1 := cellAt hz 1 (v := .int .i64 0) rfl
      have z2 := cellAt hz 2 (v := .string ⟨#[]⟩) rfl
      have z3 := frozenAt hz 0
      have z4 := frozenAt hz 1
      have z5 := frozenAt hz 2
      try simp only [World.cell?_drew, World.frozen?_drew] at z0 z1 z2 z3 z4 z5
      go_simp
      clear hz z0 z1 z2 z3 z4 z5
      clear hH
      first | (have T3 : Sep w ([boxR _ (.cells #[.int .i64 y.kind, .int .i64 y.n, .string y.s] 29)] ++ baseA) _ := (Sep.alloc T1 (.cells #[.int .i64 y.kind, .int .i64 y.n, .string y.s] 29)); (try simp only [size_drew, World.size_alloc] at T3); refine hK.out _ _ (KB.out _ [_] T3) (fun hH => ?_)) | (have T3 : Sep w ([boxR _ (.cells #[.int .i64 y.kind, .int .i64 y.n, .string y.s] 29)] ++ baseA) _ := (Sep.setBox (cs := #[.int .i64 y.kind, .int .i64 y.n, .string ⟨#[]⟩]) (t := 29) (Sep.setBox (cs := #[.int .i64 y.kind, .int .i64 0, .string ⟨#[]⟩]) (t := 29) (Sep.setBox (cs := #[.int .i64 0, .int .i64 0, .string ⟨#[]⟩]) (t := 29) T2 0 rfl 0 (.int .i64 y.kind)) 0 rfl 1 (.int .i64 y.n)) 0 rfl 2 (.string y.s)); (try simp only [size_drew, World.size_alloc] at T3); refine hK.out _ _ (KB.out _ [_] T3) (fun hH => ?_))
      clear hK K
      refine takeT 15 hH (hy := .inl ⟨by rfl, by (intro w hSw; try obtain ⟨u0, u1, u2, u3, u4, u5, u6, u7, u8⟩ := hSw); (go_simp; try rfl)⟩) (h := ?_)
      simp only [Act.put, List.setIfInBounds_toArray, List.set_cons_zero, List.set_cons_succ]
      refine wpAnyH_done (by kernel_rfl) ?_ _
      as_aux_lemma =>
        go_wp2_with fail
        go_meet
        exact ⟨_, rfl, T3⟩
    · go_simp
      have T4 : Sep w ([boxR _ (.cells #[.int .i64 0, .int .i64 0, .string ⟨#[]⟩] 29)] ++ baseA) _ := Sep.alloc T0 (.cells #[.int .i64 0, .int .i64 0, .string ⟨#[]⟩] 29)
      try simp only [size_drew, World.size_alloc] at T4
      clear hH
      refine hK.out _ _ (KB.out _ [_] T4) (fun hH => ?_)
      clear hK K
      refine readyT [9] ?_
      refine consT (fun K hK => ?_) AllReadyH.nil
      go_simp
      go_wp2_with (go_at_call 43; refine (KG.out _ [_] T4).mono ?_; rintro e w5 ⟨rfl, T5⟩)
      clear hH
      refine hK.out _ _ (KB.out _ [_] T5) (fun hH => ?_)
      clear hK K
      refine takeT 10 hH (hy := .inl ⟨by rfl, by (intro w hSw; try obtain ⟨u0, u1, u2, u3, u4, u5, u6, u7, u8⟩ := hSw); (go_simp; try rfl)⟩) (h := ?_)
      simp only [Act.put, List.setIfInBounds_toArray, List.set_cons_zero, List.set_cons_succ]
      refine takeT 11 hH (hy := .inl ⟨by rfl, by (intro w hSw; try obtain ⟨u0, u1, u2, u3, u4, u5, u6, u7, u8⟩ := hSw); (go_simp; try rfl)⟩) (h := ?_)
      simp only [Act.put, List.setIfInBounds_toArray, List.set_cons_zero, List.set_cons_succ]
      refine takeT 12 hH (hy := .inl ⟨by rfl, by (intro w hSw; try obtain ⟨u0, u1, u2, u3, u4, u5, u6, u7, u8⟩ := hSw); (go_simp; try rfl)⟩) (h := ?_)
      simp only [Act.put, List.setIfInBounds_toArray, List.set_cons_zero, List.set_cons_succ]
      refine readyT [14] ?_
      refine consT (fun K hK => ?_) AllReadyH.nil
      have hz := T5.box 0 rfl
      have z0 := cellAt hz 0 (v := .int .i64 0) rfl
      have z1 := cellAt hz 1 (v := .int .i64 0) rfl
      have z2 := cellAt hz 2 (v := .string ⟨#[]⟩) rfl
      have z3 := frozenAt hz 0
      have z4 := frozenAt hz 1
      have z5 := frozenAt hz 2
      try simp only [World.cell?_drew, World.frozen?_drew] at z0 z1 z2 z3 z4 z5
      go_simp
      clear hz z0 z1 z2 z3 z4 z5
      clear hH
      have T6 : Sep w ([boxR _ (.cells #[.int .i64 y.kind, .int .i64 y.n, .string y.s] 29)] ++ baseA) _ := (Sep.setBox (cs := #[.int .i64 y.kind, .int .i64 y.n, .string ⟨#[]⟩]) (t := 29) (Sep.setBox (cs := #[.int .i64 y.kind, .int .i64 0, .string ⟨#[]⟩]) (t := 29) (Sep.setBox (cs := #[.int .i64 0, .int .i64 0, .string ⟨#[]⟩]) (t := 29) T5 0 rfl 0 (.int .i64 y.kind)) 0 rfl 1 (.int .i64 y.n)) 0 rfl 2 (.string y.s))
      try simp only [size_drew, World.size_alloc] at T6
      refine hK.out _ _ (KB.out _ [_] T6) (fun hH => ?_)
      clear hK K
      refine takeT 15 hH (hy := .inl ⟨by rfl, by (intro w hSw; try obtain ⟨u0, u1, u2, u3, u4, u5, u6, u7, u8⟩ := hSw); (go_simp; try rfl)⟩) (h := ?_)
      simp only [Act.put, List.setIfInBounds_toArray, List.set_cons_zero, List.set_cons_succ]
      refine wpAnyH_done (by kernel_rfl) ?_ _
      as_aux_lemma =>
        go_wp2_with fail
        go_meet
        exact ⟨_, rfl, T6⟩
  case rest =>
    obtain ⟨qx, rfl, S⟩ := hcut
    rw [HbaseA.out] at S
    replace S : Sep w (tellR t h T :: boxR qx (.cells #[.int .i64 y.kind, .int .i64 y.n, .string y.s] 29) :: Rs) wc := Sep.swap S
    clear KB KG HbaseA
    have c0 := cellAt (S.box (b := q7) (i6 + 2) (by simpa using HJ.out.2.2)) 0 rfl
    have M := Lib.hid (K1.out _ _ _ S)
    clear S
    go_wp2_with fail
    refine M.out.mono ?_
    rintro e w1 ⟨rfl, S⟩
    clear M c0
    obtain ⟨T1, hT1⟩ : ∃ T1, H.tellF f x T = T1 := ⟨_, rfl⟩
    have hT2 : T1.out.length ≤ 65536 := by rw [← hT1]; exact HeapM.tellF_out f x T HT.out
    rw [hT1] at S
    have HT1 := Lib.hid hT1
    have c0 := cellAt (S.box (b := b) (i1 + 2) (by simpa using HJ.out.1)) 0 (v := .pointer (some ⟨t, 0, none⟩)) rfl
    have M := say_ok S 0 rfl ⟨#[58, 32]⟩ (by decide) hT2
    simp only [List.set_cons_zero] at M
    replace M : Hid (Calls Tryz.prog 100 #[.pointer (some ⟨t, 0, none⟩), .string ⟨#[58, 32]⟩] w1 fun e W' => e = .returned (.tuple #[]) ∧ Sep w (tellR t h (T1.say [58, 32]) :: boxR qx (.cells #[.int .i64 y.kind, .int .i64 y.n, .string y.s] 29) :: Rs) W') := Lib.hid M
    clear S hT1
    go_wp2_with fail
    refine M.out.mono ?_
    rintro e w2 ⟨rfl, S⟩
    clear M c0
    have hT3 : (T1.say [58, 32]).out.length ≤ 65536 := TelM.say_out _ hT2
    have c0 := cellAt (S.box (b := b) (i1 + 2) (by simpa using HJ.out.1)) 0 (v := .pointer (some ⟨t, 0, none⟩)) rfl
    have c1 := cellAt (S.box (b := q5) (i3 + 2) (by simpa using HJ.out.2.1)) 0 (v := .int .i64 d) rfl
    obtain ⟨d00, d01, d02⟩ := wpVal y (S.box (b := qx) 1 rfl)
    have M := Lib.hid (KT.out _ _ _ _ hT3 S)
    clear S hT2 hT3
    go_wp2_with fail
    refine M.out.mono ?_
    rintro e w3 ⟨rfl, S⟩
    have HS := Lib.hid (S.sub (.cons_cons _ (.cons _ (List.Sublist.refl _))))
    clear M c0 c1 d00 d01 d02 S
    go_wp2
    first | go_end0 | go_returns
    rw [HT1.out]
    exact ⟨rfl, HS.out⟩
end
end Go.Proofs.YtellmfimmghidaaGreat
