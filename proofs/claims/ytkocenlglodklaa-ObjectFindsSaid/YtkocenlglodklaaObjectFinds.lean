/-
  ObjectFinds: for any classes, any one of them, and any name (of four) the law returns true: what is found is what the first class of the order has that has the name; an instance has it, too, as long as it has none of its own; what it has hides that, until it is deleted. No condition.
-/
import Derived.Test.YtkocenlglodklaaShowC
import Derived.Test.YtkocenlglodklaaFindsM
import Derived.Test.YtkocenlglodklaaMade14
import Derived.Test.YtkocenlglodklaaLocal
import Derived.Test.YtkocenlglodklaaIn14
namespace Go.Proofs.Ytkocenlglodklaa.objectFinds
set_option linter.unusedSimpArgs false
open Go.ChangeShapes Go.WideShapes Go.ChangeAt Go.RowKit
open Go.ChangeMaps (open_string)
set_option linter.unusedVariables false
section
variable {w W : World} {Rs : List Res} {h : Nat} {H : HeapM}
theorem kh_ord (S : Sep w Rs W) (i : Nat) (hi : Rs[i]? = some (heapR h H)) {N : Nat} (G : H.Good N) (hN : N ≤ 4000000) (v : V) (L : List V) (hL : H.order v = L) :
    Calls Try.prog 15 #[.pointer (some ⟨h, 0, none⟩), .agg #[.int .i64 v.kind, .int .i64 v.n, .string v.s]] W fun e W' => ∃ a c, e = .returned (.slice a L.length c) ∧ Sep w (valsR (.slice a L.length c) L :: Rs) W' := by
  refine (order_list S i hi G hN v).mono fun e W' ⟨sv, h1, h2⟩ => ?_
  rw [hL] at h2
  obtain ⟨a, c, hsv⟩ := (h2.row 0 rfl).form
  rw [hsv] at h1 h2
  exact ⟨a, c, h1, h2⟩
theorem kf_inst (S : Sep w Rs W) (i : Nat) (hi : Rs[i]? = some (heapR h H)) {N : Nat} (F : H.Fit N) (hN : N + 1 ≤ 4000000) (v : V) (hc : H.isClass v = true) :
    Calls Try.prog 18 #[.pointer (some ⟨h, 0, none⟩), .agg #[.int .i64 v.kind, .int .i64 v.n, .string v.s]] W fun e W' => e = .returned (.tuple #[.agg #[.int .i64 4, .int .i64 (H.last + 1), .string ⟨#[]⟩], .bool true]) ∧ Sep w (Rs.set i (heapR h (inst1 H v))) W' :=
  instance_ok S i hi F hN v (HeapM.name_le H v) hc
def valE (g : Option V) : Value := match g with | some x => .agg #[.int .i64 x.kind, .int .i64 x.n, .string x.s] | none => zeroV
def excE (g : Option V) (s : ByteArray) : Value := match g with | some _ => excZ | none => excA s
theorem kf_find (S : Sep w Rs W) (i : Nat) (hi : Rs[i]? = some (heapR h H)) {N : Nat} (G : H.Good N) (hN : N ≤ 4000000) (v : V) (s : ByteArray) (hs : s.size ≤ maxLen) (g : Option V) (hg : H.find v (keyS s hs) = g) :
    Calls Try.prog 16 #[.pointer (some ⟨h, 0, none⟩), .agg #[.int .i64 v.kind, .int .i64 v.n, .string v.s], .string s] W fun e W' => e = .returned (.tuple #[valE g, .bool g.isSome]) ∧ Sep w Rs W' := by
  have := find_ok S i hi G hN v s hs
  rw [hg] at this
  cases g <;> exact this
theorem kf_get (S : Sep w Rs W) (i : Nat) (hi : Rs[i]? = some (heapR h H)) {N : Nat} (F : H.Fit N) (hN : N + 1 ≤ 4000000) (v : V) (s : ByteArray) (hs : s.size ≤ maxLen) (g : Option V) (hg : H.getA v (keyS s hs) = g.map (fun x => (x.val, H))) :
    Calls Try.prog 21 #[.pointer (some ⟨h, 0, none⟩), .agg #[.int .i64 v.kind, .int .i64 v.n, .string v.s], .string s] W fun e W' => e = .returned (.tuple #[valE g, excE g s]) ∧ Sep w Rs W' := by
  have := get_ok S i hi F hN v s hs
  rw [hg] at this
  cases g with
  | none => exact this
  | some x =>
    refine this.mono fun e W' hd => ?_
    have hd2 : e = .returned (.tuple #[x.val, excZ]) ∧ Sep w (Rs.set i (heapR h H)) W' := hd
    rw [Sep.setSame hi] at hd2
    exact hd2
theorem kf_set (S : Sep w Rs W) (i : Nat) (hi : Rs[i]? = some (heapR h H)) (v x : V) (s : ByteArray) (hs : s.size ≤ maxLen) (ho : H.opens v = true) (hp : H.canPut v (keyS s hs) = true) :
    Calls Try.prog 20 #[.pointer (some ⟨h, 0, none⟩), .agg #[.int .i64 v.kind, .int .i64 v.n, .string v.s], .string s, .agg #[.int .i64 x.kind, .int .i64 x.n, .string x.s]] W fun e W' => e = .returned excZ ∧ Sep w (Rs.set i (heapR h (H.put v (keyS s hs) x))) W' := by
  have := set_ok S i hi v x s hs ho
  rw [hp] at this
  exact this
theorem kf_del (S : Sep w Rs W) (i : Nat) (hi : Rs[i]? = some (heapR h H)) (v : V) (s : ByteArray) (hs : s.size ≤ maxLen) (ho : H.opens v = true) (b : Bool) (hb : H.has v (keyS s hs) = b) (ev : Value) (he : ev = if b = true then excZ else excA s) :
    Calls Try.prog 37 #[.pointer (some ⟨h, 0, none⟩), .agg #[.int .i64 v.kind, .int .i64 v.n, .string v.s], .string s] W fun e W' => e = .returned ev ∧ Sep w (Rs.set i (heapR h (H.del v (keyS s hs)))) W' := by
  have := del_ok S i hi v s hs ho
  rw [hb, ← he] at this
  exact this
end
def from_ (H : HeapM) (key : V) (L : List V) (k : Nat) : Option V := (L.drop k).findSome? fun c => H.get c key
theorem from_step {H : HeapM} {key : V} {L : List V} {j : Nat} {x : V} (hx : L[j]? = some x) : from_ H key L j = match H.get x key with | some v => some v | none => from_ H key L (j + 1) := by
  have hj := (List.getElem?_eq_some_iff.1 hx).1
  have : L.drop j = x :: L.drop (j + 1) := by rw [List.drop_eq_getElem_cons hj, (List.getElem?_eq_some_iff.1 hx).2]
  unfold from_
  rw [this, List.findSome?_cons]
  cases H.get x key <;> rfl
set_option maxRecDepth 100000 in
set_option maxHeartbeats 12800000 in
theorem walk (w : World) (sB sH : Value) (B : SomeIn w sB sH) (wh nm : Int) :
    Calls Try.prog 7 #[.agg #[sB, sH], .int .i64 wh, .int .i64 nm] w fun e W' => e = .returned (.bool true) ∧ Below w.heap.size w W' := by
  obtain ⟨b, hb⟩ : ∃ gx_, (w.heap.size) = gx_ := ⟨_, rfl⟩
  have S := (Sep.start (Below.refl w.heap.size w)).alloc (.cells #[sB, sH] 25)
  rw [hb] at S
  replace S : Sep w (boxR b (.cells #[sB, sH] 25) :: []) _ := S
  have M0 := Lib.hid ((shown_ok (w.alloc (.cells #[sB, sH] 25))).mono fun e W1 (hh : _ ∧ _) => (⟨hh.1, S.later hh.2⟩ : _ ∧ Sep w (boxR b (.cells #[sB, sH] 25) :: []) W1))
  clear S
  go_enter Try.func7, Try.ntmps7
  go_wp2_with fail
  try simp only [hb]
  refine M0.out.mono ?_
  rintro e w1 ⟨rfl, S⟩
  clear M0 hb
  have d0 := cellAt (S.box (b := b) 0 rfl) 0 (v := sB) rfl
  have d1 := cellAt (S.box (b := b) 0 rfl) 1 (v := sH) rfl
  have MM := Lib.hid (B.made S)
  clear S
  go_wp2_with fail
  refine MM.out.mono ?_
  rintro e w2 ⟨h, oa, oc, H, out, rfl, M, S⟩
  clear MM B d0 d1
  replace S : Sep w (valsR (.slice oa out.length oc) out :: heapR h H :: boxR b (.cells #[sB, sH] 25) :: []) _ := S
  by_cases hl : out = []
  · have hl0 : out.length = 0 := by rw [hl]; rfl
    replace S := Lib.hid S.below
    rw [hl0]
    clear M hl hl0
    go_wp2
    go_ret
    exact ⟨rfl, S.out⟩
  have hl1 : ¬ out.length = 0 := fun e => hl (List.length_eq_zero_iff.1 e)
  have hl2 : ((out.length : Int) == 0) = false := by simp; exact hl
  have hmem := M.mem _ (pickV_mem hl wh)
  have C := pick_ok w2 _ out wh (S.row 0 rfl).sees'
  obtain ⟨c, hc⟩ : ∃ gx_, (pickV out wh) = gx_ := ⟨_, rfl⟩
  rw [hc] at hmem C
  have MM := Lib.hid (And.intro M hmem)
  have M1 := Lib.hid (C.mono fun e W1 (hh : _ ∧ _) => (⟨hh.1, S.later hh.2⟩ : _ ∧ Sep w (valsR (.slice oa out.length oc) out :: heapR h H :: boxR b (.cells #[sB, sH] 25) :: []) W1))
  simp only [V.val] at M1
  clear S C hc hmem M hl
  go_wp2_with fail
  refine M1.out.mono ?_
  rintro e w3 ⟨rfl, S⟩
  clear M1 hl1 hl2
  obtain ⟨x10, hx10⟩ : ∃ gx_, (w3.heap.size) = gx_ := ⟨_, rfl⟩
  replace S := (S.alloc (.cells #[.int .i64 c.kind, .int .i64 c.n, .string c.s] 33))
  simp only [World.size_alloc, hx10] at S
  replace S : Sep w (boxR x10 (.cells #[.int .i64 c.kind, .int .i64 c.n, .string c.s] 33) :: valsR (.slice oa out.length oc) out :: heapR h H :: boxR b (.cells #[sB, sH] 25) :: []) _ := S
  have M := Lib.hid ((names_ok (w3.alloc (.cells #[.int .i64 c.kind, .int .i64 c.n, .string c.s] 33))).mono fun e W1 (hh : _ ∧ _) => (⟨hh.1, S.later hh.2⟩ : _ ∧ Sep w (boxR x10 (.cells #[.int .i64 c.kind, .int .i64 c.n, .string c.s] 33) :: valsR (.slice oa out.length oc) out :: heapR h H :: boxR b (.cells #[sB, sH] 25) :: []) W1))
  clear S
  go_wp2_with fail
  try simp only [hx10]
  refine M.out.mono ?_
  rintro e w4 ⟨rfl, S⟩
  clear M hx10
  obtain ⟨m, hm4, hbm⟩ := and_mask3 nm
  have HNM : ∀ W, (Instr.index 39 namesV (.int .i64 m)).run Try.prog W = .ok (.string (nameK m)) W := run_names hm4
  obtain ⟨L, hLL⟩ : ∃ gx_, (H.order c) = gx_ := ⟨_, rfl⟩
  have HL := Lib.hid hLL
  have hL9 : (L.length : Int) ≤ 1000 := by
    have := HeapM.ordN_len MM.out.1.fit.G c
    unfold HeapM.ordN at this
    rw [List.length_map, hLL] at this; omega
  clear hLL
  have d0 := cellAt (S.box (b := x10) 0 rfl) 0 (v := .int .i64 c.kind) rfl
  have d1 := cellAt (S.box (b := x10) 0 rfl) 1 (v := .int .i64 c.n) rfl
  have d2 := cellAt (S.box (b := x10) 0 rfl) 2 (v := .string c.s) rfl
  have M := Lib.hid (kh_ord S 2 rfl MM.out.1.fit.G (by omega) c L HL.out)
  clear S
  go_wp2_with fail
  refine M.out.mono ?_
  rintro e w5 ⟨la, lc, rfl, S⟩
  clear M d0 d1 d2
  replace S : Sep w (valsR (.slice la L.length lc) L :: boxR x10 (.cells #[.int .i64 c.kind, .int .i64 c.n, .string c.s] 33) :: valsR (.slice oa out.length oc) out :: heapR h H :: boxR b (.cells #[sB, sH] 25) :: []) _ := S
  obtain ⟨s, hs⟩ : ∃ s, s = nameK m := ⟨_, rfl⟩
  have hsl : s.size ≤ maxLen := by rw [hs]; exact nameK_le m
  rw [← hs]
  clear HNM hs hbm hm4
  obtain ⟨x14, hx14⟩ : ∃ gx_, (w5.heap.size) = gx_ := ⟨_, rfl⟩
  replace S := (S.alloc (.cells #[.int .i64 0, .int .i64 0, .string ⟨#[]⟩] 33))
  simp only [World.size_alloc, hx14] at S
  replace S : Sep w (boxR x14 (.cells #[.int .i64 0, .int .i64 0, .string ⟨#[]⟩] 33) :: valsR (.slice la L.length lc) L :: boxR x10 (.cells #[.int .i64 c.kind, .int .i64 c.n, .string c.s] 33) :: valsR (.slice oa out.length oc) out :: heapR h H :: boxR b (.cells #[sB, sH] 25) :: []) _ := S
  replace S := Lib.hid S
  go_wp2
  try simp only [hx14]
  clear hx14
  obtain ⟨FR, hFR⟩ : ∃ FR, FR = from_ H (keyS s hsl) L := ⟨_, rfl⟩
  have HFR := Lib.hid hFR
  have hF0 : FR L.length = none := by rw [hFR]; simp [from_]
  go_loopw [13, 15] (fun fv iv wr => ∃ k : Nat, k ≤ L.length ∧ iv = .int .i64 ((k : Int) - 1) ∧ fv = .bool (FR k).isSome ∧ Sep w (boxR x14 (.cells #[.int .i64 ((FR k).getD V.zero).kind, .int .i64 ((FR k).getD V.zero).n, .string ((FR k).getD V.zero).s] 33) :: valsR (.slice la L.length lc) L :: boxR x10 (.cells #[.int .i64 c.kind, .int .i64 c.n, .string c.s] 33) :: valsR (.slice oa out.length oc) out :: heapR h H :: boxR b (.cells #[sB, sH] 25) :: []) wr) (fun _ iv _ => (intOf iv + 1).toNat)
  case atStart => exact ⟨L.length, by omega, rfl, by rw [hF0]; rfl, by rw [hF0]; exact S.out⟩
  case round =>
    clear S hF0 hFR
    obtain ⟨k, hk, rfl, rfl, S⟩ := hrel
    cases k with
    | succ j =>
      have ej : (((j + 1 : Nat) : Int) - 1) = (j : Int) := by omega
      rw [ej]
      have hj0 : (0 : Int) ≤ j := by omega
      have hjl : (j : Int) < L.length := by omega
      obtain ⟨x, hx⟩ : ∃ x, L[j]? = some x := ⟨L[j], by simp⟩
      obtain ⟨_, _, e0, p1, p2, p3⟩ := (S.row 1 rfl).sees'
      cases e0
      obtain ⟨g, og, rfl, hcell⟩ : ∃ g o, la = some ⟨g, o, none⟩ ∧ ∀ i v, L[i]? = some v → wr.cell? ⟨g, o + i * 3, none⟩ = some (.int .i64 v.kind) ∧ wr.cell? ⟨g, o + i * 3 + 1, none⟩ = some (.int .i64 v.n) ∧ wr.cell? ⟨g, o + i * 3 + 2, none⟩ = some (.string v.s) := by
        rcases p3 with hh | hh
        · subst hh; simp at hx
        · exact hh
      have hstep := from_step (H := H) (key := keyS s hsl) hx
      rw [← HFR.out] at hstep
      obtain ⟨gx, hgx⟩ : ∃ gx_, (H.get x (keyS s hsl)) = gx_ := ⟨_, rfl⟩
      rw [hgx] at hstep
      have HG := Lib.hid hgx
      have HX := Lib.hid (And.intro hstep hk)
      have HXX := Lib.hid hx
      obtain ⟨baseA, hbaseA⟩ : ∃ base, base = boxR x14 (.cells #[.int .i64 ((FR (j + 1)).getD V.zero).kind, .int .i64 ((FR (j + 1)).getD V.zero).n, .string ((FR (j + 1)).getD V.zero).s] 33) :: valsR (.slice (some ⟨g, og, none⟩) L.length lc) L :: boxR x10 (.cells #[.int .i64 c.kind, .int .i64 c.n, .string c.s] 33) :: valsR (.slice oa out.length oc) out :: heapR h H :: boxR b (.cells #[sB, sH] 25) :: [] := ⟨_, rfl⟩
      have HbaseA := Lib.hid hbaseA
      have KbaseA : Hid (∀ W (Q : List Res), Sep w (Q ++ baseA) W → W.cell? ⟨g, og + j * 3, none⟩ = some (.int .i64 x.kind) ∧ W.cell? ⟨g, og + j * 3 + 1, none⟩ = some (.int .i64 x.n) ∧ W.cell? ⟨g, og + j * 3 + 2, none⟩ = some (.string x.s)) := Lib.hid fun W Q T => by
        rw [hbaseA] at T
        exact (by obtain ⟨a0, c0, e0, _, _, p3⟩ := (T.row (Q.length + 1) (by rw [List.getElem?_append_right (by omega), Nat.add_sub_cancel_left]; rfl)).sees'; cases e0; rcases p3 with hh | ⟨g1, o1, hh, hcl⟩; (subst hh; simp at hx); (cases hh; exact hcl j x hx))
      have KY : Hid (∀ W (Q : List Res), Sep w (Q ++ baseA) W → Calls Try.prog 36 #[.string s] W fun e W' => e = .returned (.agg #[.int .i64 3, .int .i64 0, .string s]) ∧ Sep w (Q ++ baseA) W') := Lib.hid fun W Q T => by
        exact (str_ok W s).mono fun e W' ⟨e1, e2⟩ => ⟨e1, T.later e2⟩
      have KG : Hid (∀ W (Q : List Res), Sep w (Q ++ baseA) W → Calls Try.prog 35 #[.pointer (some ⟨h, 0, none⟩), .agg #[.int .i64 x.kind, .int .i64 x.n, .string x.s], .agg #[.int .i64 3, .int .i64 0, .string s]] W fun e W' => e = .returned (.tuple #[.agg #[.int .i64 (gx.getD V.zero).kind, .int .i64 (gx.getD V.zero).n, .string (gx.getD V.zero).s], .bool gx.isSome]) ∧ Sep w (Q ++ baseA) W') := Lib.hid fun W Q T => by
        rw [HbaseA.out] at T ⊢
        have := T.get_ (Q.length + 4) (by rw [List.getElem?_append_right (by omega), Nat.add_sub_cancel_left]; rfl) x (keyS s hsl)
        rw [HG.out] at this
        exact this.mono fun e W' ⟨e1, e2, _⟩ => ⟨e1, e2⟩
      clear hcell hx p1 p2 p3 hstep hgx hk
      obtain ⟨t0, t1, t2⟩ := KbaseA.out _ [] (by rw [HbaseA.out]; exact S)
      replace S : Sep w baseA wr := by rw [hbaseA]; exact S
      replace S := Lib.hid S
      clear hbaseA
      go_upto_region 13 with fail
      clear t0 t1 t2
      go_cut [16, 17] from 65 to 81 (fun s16 s17 wx => ∃ qx, s16 = .pointer (some ⟨qx, 0, none⟩) ∧ s17 = .bool gx.isSome ∧ Sep w (boxR qx (.cells #[.int .i64 (gx.getD V.zero).kind, .int .i64 (gx.getD V.zero).n, .string (gx.getD V.zero).s] 33) :: baseA) wx)
      case first =>
        have T0 : Sep w ([] ++ baseA) _ := S.out.drew
        clear S
        as_aux_lemma =>
          refine wp_region_held_drew (S := fun W => W.cell? ⟨g, og + j * 3, none⟩ = some (.int .i64 x.kind) ∧ W.cell? ⟨g, og + j * 3 + 1, none⟩ = some (.int .i64 x.n) ∧ W.cell? ⟨g, og + j * 3 + 2, none⟩ = some (.string x.s)) (by kernel_rfl) (KbaseA.out _ [] T0) (fun hH => ?_)
          refine takeT 0 hH (hy := .inl ⟨by rfl, by (intro w hSw; try obtain ⟨v0, v1, v2⟩ := hSw); (go_simp; try rfl)⟩) (h := ?_)
          simp only [Act.put, List.setIfInBounds_toArray, List.set_cons_zero, List.set_cons_succ]
          refine takeT 1 hH (hy := .inl ⟨by rfl, by (intro w hSw; try obtain ⟨v0, v1, v2⟩ := hSw); (go_simp; try rfl)⟩) (h := ?_)
          simp only [Act.put, List.setIfInBounds_toArray, List.set_cons_zero, List.set_cons_succ]
          refine takeT 2 hH (hy := .inl ⟨by rfl, by (intro w hSw; try obtain ⟨v0, v1, v2⟩ := hSw); (go_simp; try rfl)⟩) (h := ?_)
          simp only [Act.put, List.setIfInBounds_toArray, List.set_cons_zero, List.set_cons_succ]
          refine takeT 3 hH (hy := .inl ⟨by rfl, by (intro w hSw; try obtain ⟨v0, v1, v2⟩ := hSw); (go_simp; try rfl)⟩) (h := ?_)
          simp only [Act.put, List.setIfInBounds_toArray, List.set_cons_zero, List.set_cons_succ]
          refine takeT 4 hH (hy := .inl ⟨by rfl, by (intro w hSw; try obtain ⟨v0, v1, v2⟩ := hSw); (go_simp; try rfl)⟩) (h := ?_)
          simp only [Act.put, List.setIfInBounds_toArray, List.set_cons_zero, List.set_cons_succ]
          refine takeT 5 hH (hy := .inl ⟨by rfl, by (intro w hSw; try obtain ⟨v0, v1, v2⟩ := hSw); (go_simp; try rfl)⟩) (h := ?_)
          simp only [Act.put, List.setIfInBounds_toArray, List.set_cons_zero, List.set_cons_succ]
          refine readyT [6, 11] ?_
          refine consT (fun K hK => ?_) (consT (fun K hK => ?_) AllReadyH.nil)
          · go_simp
            go_wp2_with (go_at_call 36; refine (KY.out _ [] T0).mono ?_; rintro e w1 ⟨rfl, T1⟩)
            clear hH
            refine hK.out _ _ (KbaseA.out _ [] T1) (fun hH => ?_)
            clear hK K
            refine readyT [7, 11] ?_
            refine consT (fun K hK => ?_) (consT (fun K hK => ?_) AllReadyH.nil)
            · go_simp
              go_wp2_with (go_at_call 35; refine (KG.out _ [] T1).mono ?_; rintro e w2 ⟨rfl, T2⟩)
              clear hH
              refine hK.out _ _ (KbaseA.out _ [] T2) (fun hH => ?_)
              clear hK K
              refine takeT 8 hH (hy := .inl ⟨by rfl, by (intro w hSw; try obtain ⟨v0, v1, v2⟩ := hSw); (go_simp; try rfl)⟩) (h := ?_)
              simp only [Act.put, List.setIfInBounds_toArray, List.set_cons_zero, List.set_cons_succ]
              refine takeT 9 hH (hy := .inl ⟨by rfl, by (intro w hSw; try obtain ⟨v0, v1, v2⟩ := hSw); (go_simp; try rfl)⟩) (h := ?_)
              simp only [Act.put, List.setIfInBounds_toArray, List.set_cons_zero, List.set_cons_succ]
              refine takeT 10 hH (hy := .inl ⟨by rfl, by (intro w hSw; try obtain ⟨v0, v1, v2⟩ := hSw); (go_simp; try rfl)⟩) (h := ?_)
              simp only [Act.put, List.setIfInBounds_toArray, List.set_cons_zero, List.set_cons_succ]
              refine readyT [11] ?_
              refine consT (fun K hK => ?_) AllReadyH.nil
              go_simp
              have T3 : Sep w ([boxR _ (.cells #[.int .i64 0, .int .i64 0, .string ⟨#[]⟩] 33)] ++ baseA) _ := Sep.alloc T2 (.cells #[.int .i64 0, .int .i64 0, .string ⟨#[]⟩] 33)
              try simp only [size_drew, World.size_alloc] at T3
              clear hH
              refine hK.out _ _ (KbaseA.out _ [_] T3) (fun hH => ?_)
              clear hK K
              refine readyT [12] ?_
              refine consT (fun K hK => ?_) AllReadyH.nil
              have hz := T3.box 0 rfl
              have z0 := cellAt hz 0 (v := .int .i64 0) rfl
              have z1 := cellAt hz 1 (v := .int .i64 0) rfl
              have z2 := cellAt hz 2 (v := .string ⟨#[]⟩) rfl
              have z3 := frozenAt hz 0
              have z4 := frozenAt hz 1
              have z5 := frozenAt hz 2
              go_simp
              clear hz z0 z1 z2 z3 z4 z5
              clear hH
              first | (have T4 : Sep w ([boxR _ (.cells #[.int .i64 (gx.getD V.zero).kind, .int .i64 (gx.getD V.zero).n, .string (gx.getD V.zero).s] 33)] ++ baseA) _ := (Sep.alloc T2 (.cells #[.int .i64 (gx.getD V.zero).kind, .int .i64 (gx.getD V.zero).n, .string (gx.getD V.zero).s] 33)); (try simp only [size_drew, World.size_alloc] at T4); refine hK.out _ _ (KbaseA.out _ [_] T4) (fun hH => ?_)) | (have T4 : Sep w ([boxR _ (.cells #[.int .i64 (gx.getD V.zero).kind, .int .i64 (gx.getD V.zero).n, .string (gx.getD V.zero).s] 33)] ++ baseA) _ := (Sep.setBox (cs := #[.int .i64 (gx.getD V.zero).kind, .int .i64 (gx.getD V.zero).n, .string ⟨#[]⟩]) (t := 33) (Sep.setBox (cs := #[.int .i64 (gx.getD V.zero).kind, .int .i64 0, .string ⟨#[]⟩]) (t := 33) (Sep.setBox (cs := #[.int .i64 0, .int .i64 0, .string ⟨#[]⟩]) (t := 33) T3 0 rfl 0 (.int .i64 (gx.getD V.zero).kind)) 0 rfl 1 (.int .i64 (gx.getD V.zero).n)) 0 rfl 2 (.string (gx.getD V.zero).s)); (try simp only [size_drew, World.size_alloc] at T4); refine hK.out _ _ (KbaseA.out _ [_] T4) (fun hH => ?_))
              clear hK K
              refine takeT 13 hH (hy := .inl ⟨by rfl, by (intro w hSw; try obtain ⟨v0, v1, v2⟩ := hSw); (go_simp; try rfl)⟩) (h := ?_)
              simp only [Act.put, List.setIfInBounds_toArray, List.set_cons_zero, List.set_cons_succ]
              refine wpAnyH_done (by kernel_rfl) ?_ _
              as_aux_lemma =>
                go_wp2_with fail
                go_meet
                exact ⟨_, rfl, rfl, T4⟩
            · go_simp
              have T5 : Sep w ([boxR _ (.cells #[.int .i64 0, .int .i64 0, .string ⟨#[]⟩] 33)] ++ baseA) _ := Sep.alloc T1 (.cells #[.int .i64 0, .int .i64 0, .string ⟨#[]⟩] 33)
              try simp only [size_drew, World.size_alloc] at T5
              clear hH
              refine hK.out _ _ (KbaseA.out _ [_] T5) (fun hH => ?_)
              clear hK K
              refine readyT [7] ?_
              refine consT (fun K hK => ?_) AllReadyH.nil
              go_simp
              go_wp2_with (go_at_call 35; refine (KG.out _ [_] T5).mono ?_; rintro e w6 ⟨rfl, T6⟩)
              clear hH
              refine hK.out _ _ (KbaseA.out _ [_] T6) (fun hH => ?_)
              clear hK K
              refine takeT 8 hH (hy := .inl ⟨by rfl, by (intro w hSw; try obtain ⟨v0, v1, v2⟩ := hSw); (go_simp; try rfl)⟩) (h := ?_)
              simp only [Act.put, List.setIfInBounds_toArray, List.set_cons_zero, List.set_cons_succ]
              refine takeT 9 hH (hy := .inl ⟨by rfl, by (intro w hSw; try obtain ⟨v0, v1, v2⟩ := hSw); (go_simp; try rfl)⟩) (h := ?_)
              simp only [Act.put, List.setIfInBounds_toArray, List.set_cons_zero, List.set_cons_succ]
              refine takeT 10 hH (hy := .inl ⟨by rfl, by (intro w hSw; try obtain ⟨v0, v1, v2⟩ := hSw); (go_simp; try rfl)⟩) (h := ?_)
              simp only [Act.put, List.setIfInBounds_toArray, List.set_cons_zero, List.set_cons_succ]
              refine readyT [12] ?_
              refine consT (fun K hK => ?_) AllReadyH.nil
              have hz := T6.box 0 rfl
              have z0 := cellAt hz 0 (v := .int .i64 0) rfl
              have z1 := cellAt hz 1 (v := .int .i64 0) rfl
              have z2 := cellAt hz 2 (v := .string ⟨#[]⟩) rfl
              have z3 := frozenAt hz 0
              have z4 := frozenAt hz 1
              have z5 := frozenAt hz 2
              go_simp
              clear hz z0 z1 z2 z3 z4 z5
              clear hH
              have T7 : Sep w ([boxR _ (.cells #[.int .i64 (gx.getD V.zero).kind, .int .i64 (gx.getD V.zero).n, .string (gx.getD V.zero).s] 33)] ++ baseA) _ := (Sep.setBox (cs := #[.int .i64 (gx.getD V.zero).kind, .int .i64 (gx.getD V.zero).n, .string ⟨#[]⟩]) (t := 33) (Sep.setBox (cs := #[.int .i64 (gx.getD V.zero).kind, .int .i64 0, .string ⟨#[]⟩]) (t := 33) (Sep.setBox (cs := #[.int .i64 0, .int .i64 0, .string ⟨#[]⟩]) (t := 33) T6 0 rfl 0 (.int .i64 (gx.getD V.zero).kind)) 0 rfl 1 (.int .i64 (gx.getD V.zero).n)) 0 rfl 2 (.string (gx.getD V.zero).s))
              try simp only [size_drew, World.size_alloc] at T7
              refine hK.out _ _ (KbaseA.out _ [_] T7) (fun hH => ?_)
              clear hK K
              refine takeT 13 hH (hy := .inl ⟨by rfl, by (intro w hSw; try obtain ⟨v0, v1, v2⟩ := hSw); (go_simp; try rfl)⟩) (h := ?_)
              simp only [Act.put, List.setIfInBounds_toArray, List.set_cons_zero, List.set_cons_succ]
              refine wpAnyH_done (by kernel_rfl) ?_ _
              as_aux_lemma =>
                go_wp2_with fail
                go_meet
                exact ⟨_, rfl, rfl, T7⟩
          · go_simp
            have T8 : Sep w ([boxR _ (.cells #[.int .i64 0, .int .i64 0, .string ⟨#[]⟩] 33)] ++ baseA) _ := Sep.alloc T0 (.cells #[.int .i64 0, .int .i64 0, .string ⟨#[]⟩] 33)
            try simp only [size_drew, World.size_alloc] at T8
            clear hH
            refine hK.out _ _ (KbaseA.out _ [_] T8) (fun hH => ?_)
            clear hK K
            refine readyT [6] ?_
            refine consT (fun K hK => ?_) AllReadyH.nil
            go_simp
            go_wp2_with (go_at_call 36; refine (KY.out _ [_] T8).mono ?_; rintro e w9 ⟨rfl, T9⟩)
            clear hH
            refine hK.out _ _ (KbaseA.out _ [_] T9) (fun hH => ?_)
            clear hK K
            refine readyT [7] ?_
            refine consT (fun K hK => ?_) AllReadyH.nil
            go_simp
            go_wp2_with (go_at_call 35; refine (KG.out _ [_] T9).mono ?_; rintro e w10 ⟨rfl, T10⟩)
            clear hH
            refine hK.out _ _ (KbaseA.out _ [_] T10) (fun hH => ?_)
            clear hK K
            refine takeT 8 hH (hy := .inl ⟨by rfl, by (intro w hSw; try obtain ⟨v0, v1, v2⟩ := hSw); (go_simp; try rfl)⟩) (h := ?_)
            simp only [Act.put, List.setIfInBounds_toArray, List.set_cons_zero, List.set_cons_succ]
            refine takeT 9 hH (hy := .inl ⟨by rfl, by (intro w hSw; try obtain ⟨v0, v1, v2⟩ := hSw); (go_simp; try rfl)⟩) (h := ?_)
            simp only [Act.put, List.setIfInBounds_toArray, List.set_cons_zero, List.set_cons_succ]
            refine takeT 10 hH (hy := .inl ⟨by rfl, by (intro w hSw; try obtain ⟨v0, v1, v2⟩ := hSw); (go_simp; try rfl)⟩) (h := ?_)
            simp only [Act.put, List.setIfInBounds_toArray, List.set_cons_zero, List.set_cons_succ]
            refine readyT [12] ?_
            refine consT (fun K hK => ?_) AllReadyH.nil
            have hz := T10.box 0 rfl
            have z0 := cellAt hz 0 (v := .int .i64 0) rfl
            have z1 := cellAt hz 1 (v := .int .i64 0) rfl
            have z2 := cellAt hz 2 (v := .string ⟨#[]⟩) rfl
            have z3 := frozenAt hz 0
            have z4 := frozenAt hz 1
            have z5 := frozenAt hz 2
            go_simp
            clear hz z0 z1 z2 z3 z4 z5
            clear hH
            have T11 : Sep w ([boxR _ (.cells #[.int .i64 (gx.getD V.zero).kind, .int .i64 (gx.getD V.zero).n, .string (gx.getD V.zero).s] 33)] ++ baseA) _ := (Sep.setBox (cs := #[.int .i64 (gx.getD V.zero).kind, .int .i64 (gx.getD V.zero).n, .string ⟨#[]⟩]) (t := 33) (Sep.setBox (cs := #[.int .i64 (gx.getD V.zero).kind, .int .i64 0, .string ⟨#[]⟩]) (t := 33) (Sep.setBox (cs := #[.int .i64 0, .int .i64 0, .string ⟨#[]⟩]) (t := 33) T10 0 rfl 0 (.int .i64 (gx.getD V.zero).kind)) 0 rfl 1 (.int .i64 (gx.getD V.zero).n)) 0 rfl 2 (.string (gx.getD V.zero).s))
            try simp only [size_drew, World.size_alloc] at T11
            refine hK.out _ _ (KbaseA.out _ [_] T11) (fun hH => ?_)
            clear hK K
            refine takeT 13 hH (hy := .inl ⟨by rfl, by (intro w hSw; try obtain ⟨v0, v1, v2⟩ := hSw); (go_simp; try rfl)⟩) (h := ?_)
            simp only [Act.put, List.setIfInBounds_toArray, List.set_cons_zero, List.set_cons_succ]
            refine wpAnyH_done (by kernel_rfl) ?_ _
            as_aux_lemma =>
              go_wp2_with fail
              go_meet
              exact ⟨_, rfl, rfl, T11⟩
      case rest =>
        obtain ⟨q, rfl, rfl, S⟩ := hcut
        rw [HbaseA.out] at S
        clear KY KG KbaseA HbaseA
        cases gx with
        | none =>
          have S9 := Lib.hid S.tail
          have e : FR j = FR (j + 1) := HX.out.1
          rw [← e] at S9
          clear S
          simp only [Option.isSome_none, ← e]
          go_wp2
          refine ⟨⟨j, by have := HX.out.2; omega, by go_num, rfl, S9.out⟩, by simp [intOf] <;> omega⟩
        | some y =>
          have e : FR j = some y := HX.out.1
          replace S : Sep w (boxR q (.cells #[.int .i64 y.kind, .int .i64 y.n, .string y.s] 33) :: boxR x14 (.cells #[.int .i64 ((FR (j + 1)).getD V.zero).kind, .int .i64 ((FR (j + 1)).getD V.zero).n, .string ((FR (j + 1)).getD V.zero).s] 33) :: valsR (.slice (some ⟨g, og, none⟩) L.length lc) L :: boxR x10 (.cells #[.int .i64 c.kind, .int .i64 c.n, .string c.s] 33) :: valsR (.slice oa out.length oc) out :: heapR h H :: boxR b (.cells #[sB, sH] 25) :: []) wc := S
          have d0 := cellAt (S.box (b := q) 0 rfl) 0 (v := .int .i64 y.kind) rfl
          have d1 := cellAt (S.box (b := q) 0 rfl) 1 (v := .int .i64 y.n) rfl
          have d2 := cellAt (S.box (b := q) 0 rfl) 2 (v := .string y.s) rfl
          have e14 := S.box (b := x14) 1 rfl
          have a0 := cellAt e14 0 (v := .int .i64 ((FR (j + 1)).getD V.zero).kind) rfl
          have a1 := cellAt e14 1 (v := .int .i64 ((FR (j + 1)).getD V.zero).n) rfl
          have a2 := cellAt e14 2 (v := .string ((FR (j + 1)).getD V.zero).s) rfl
          have a3 := frozenAt e14 0
          have a4 := frozenAt e14 1
          have a5 := frozenAt e14 2
          have S9 : Hid (Sep w (boxR x14 (.cells #[.int .i64 y.kind, .int .i64 y.n, .string y.s] 33) :: valsR (.slice (some ⟨g, og, none⟩) L.length lc) L :: boxR x10 (.cells #[.int .i64 c.kind, .int .i64 c.n, .string c.s] 33) :: valsR (.slice oa out.length oc) out :: heapR h H :: boxR b (.cells #[sB, sH] 25) :: []) _) := Lib.hid (Sep.tail (Sep.setBox (cs := #[.int .i64 y.kind, .int .i64 y.n, .string ((FR (j + 1)).getD V.zero).s]) (t := 33) (Sep.setBox (cs := #[.int .i64 y.kind, .int .i64 ((FR (j + 1)).getD V.zero).n, .string ((FR (j + 1)).getD V.zero).s]) (t := 33) (Sep.setBox (cs := #[.int .i64 ((FR (j + 1)).getD V.zero).kind, .int .i64 ((FR (j + 1)).getD V.zero).n, .string ((FR (j + 1)).getD V.zero).s]) (t := 33) S 1 rfl 0 (.int .i64 y.kind)) 1 rfl 1 (.int .i64 y.n)) 1 rfl 2 (.string y.s)))
          clear S e14
          simp only [Option.isSome_some]
          go_wp2
          refine ⟨⟨j, by have := HX.out.2; omega, by go_num, by rw [e]; rfl, by rw [e]; exact S9.out⟩, by simp [intOf] <;> omega⟩
    | zero =>
      have hF : FR 0 = H.find c (keyS s hsl) := by rw [HFR.out]; unfold from_ HeapM.find; rw [List.drop_zero, HL.out]
      have hz : (((0 : Nat) : Int) - 1) = -1 := by omega
      rw [hz]
      obtain ⟨g, hg⟩ : ∃ gx_, (FR 0) = gx_ := ⟨_, rfl⟩
      rw [hg] at hF S ⊢
      have HFN := Lib.hid hF.symm
      clear hg hF hk HFR
      replace S : Sep w (boxR x14 (.cells #[.int .i64 ((g).getD V.zero).kind, .int .i64 ((g).getD V.zero).n, .string ((g).getD V.zero).s] 33) :: valsR (.slice la L.length lc) L :: boxR x10 (.cells #[.int .i64 c.kind, .int .i64 c.n, .string c.s] 33) :: valsR (.slice oa out.length oc) out :: heapR h H :: boxR b (.cells #[sB, sH] 25) :: []) _ := S
      have hn : okI (H.last + 1) := okI_of (by have := MM.out.1.last; omega)
      obtain ⟨y7, hy7⟩ : ∃ y : V, y = ⟨2, 77, ⟨#[]⟩, by decide, by decide, by decide⟩ := ⟨_, rfl⟩
      have PL := finds_plain MM.out.1 MM.out.2.1 MM.out.2.2 hn (keyS s hsl) y7 rfl
      rw [HFN.out] at PL
      obtain ⟨r, hr⟩ : ∃ r, r = V.ref (H.last + 1) hn := ⟨_, rfl⟩
      have e1 : Value.agg #[.int .i64 4, .int .i64 (H.last + 1), .string ⟨#[]⟩] = .agg #[.int .i64 r.kind, .int .i64 r.n, .string r.s] := by rw [hr]; rfl
      rw [← hr] at PL
      have F1 := Lib.hid (MM.out.1.fit.addP (instO (H.name c) (HeapM.name_le H c) c) (by show (1 : Int) ≤ 6 ∧ (6 : Int) ≤ 12; decide) rfl (M := 800) (by simp [instO]))
      have FI : (inst1 H c).Fit 800 := F1.out
      have F2 := FI.put r (keyS s hsl) y7
      have G3 := F2.G.del r (keyS s hsl)
      have F3 : (((inst1 H c).put r (keyS s hsl) y7).del r (keyS s hsl)).Fit 801 := fit_del14 F2 r (keyS s hsl)
      clear F1 hr hn
      have HI1 : Hid (∀ (S : Prop), S → S) := Lib.hid fun _ h => h
      have HPL := Lib.hid (And.intro PL (And.intro FI (And.intro F2 F3)))
      have He1 := Lib.hid e1
      have Hy7 := Lib.hid hy7
      clear PL FI F2 F3 G3 e1 hy7 HI1
      cases g with
      | none =>
        replace S : Sep w (boxR x14 (.cells #[.int .i64 0, .int .i64 0, .string ⟨#[]⟩] 33) :: valsR (.slice la L.length lc) L :: boxR x10 (.cells #[.int .i64 c.kind, .int .i64 c.n, .string c.s] 33) :: valsR (.slice oa out.length oc) out :: heapR h H :: boxR b (.cells #[sB, sH] 25) :: []) wr := S
        simp only [Option.isSome_none]
        have d0 := cellAt (S.box (b := x10) 2 rfl) 0 (v := .int .i64 c.kind) rfl
        have d1 := cellAt (S.box (b := x10) 2 rfl) 1 (v := .int .i64 c.n) rfl
        have d2 := cellAt (S.box (b := x10) 2 rfl) 2 (v := .string c.s) rfl
        have M := Lib.hid (kf_find S 4 rfl MM.out.1.fit.G (by omega) c s hsl none HFN.out)
        clear S
        go_wp2_with fail
        refine M.out.mono ?_
        rintro e w6 ⟨rfl, S⟩
        clear M d0 d1 d2
        try simp only [valE, excE, Option.isSome_some, Option.isSome_none]
        replace S : Sep w (boxR x14 (.cells #[.int .i64 0, .int .i64 0, .string ⟨#[]⟩] 33) :: valsR (.slice la L.length lc) L :: boxR x10 (.cells #[.int .i64 c.kind, .int .i64 c.n, .string c.s] 33) :: valsR (.slice oa out.length oc) out :: heapR h H :: boxR b (.cells #[sB, sH] 25) :: []) _ := S
        obtain ⟨x18, hx18⟩ : ∃ gx_, (w6.heap.size) = gx_ := ⟨_, rfl⟩
        replace S := (S.alloc (.cells #[.int .i64 0, .int .i64 0, .string ⟨#[]⟩] 33))
        simp only [World.size_alloc, hx18] at S
        replace S : Sep w (boxR x18 (.cells #[.int .i64 0, .int .i64 0, .string ⟨#[]⟩] 33) :: boxR x14 (.cells #[.int .i64 0, .int .i64 0, .string ⟨#[]⟩] 33) :: valsR (.slice la L.length lc) L :: boxR x10 (.cells #[.int .i64 c.kind, .int .i64 c.n, .string c.s] 33) :: valsR (.slice oa out.length oc) out :: heapR h H :: boxR b (.cells #[sB, sH] 25) :: []) _ := S
        have d0 := cellAt (S.box (b := x10) 3 rfl) 0 (v := .int .i64 c.kind) rfl
        have d1 := cellAt (S.box (b := x10) 3 rfl) 1 (v := .int .i64 c.n) rfl
        have d2 := cellAt (S.box (b := x10) 3 rfl) 2 (v := .string c.s) rfl
        have M := Lib.hid (kf_inst S 5 rfl MM.out.1.fit (by omega) c MM.out.2.1)
        clear S
        go_wp2_with fail
        try simp only [hx18]
        refine M.out.mono ?_
        rintro e w7 ⟨rfl, S⟩
        clear M d0 d1 d2 hx18
        replace S : Sep w (boxR x18 (.cells #[.int .i64 0, .int .i64 0, .string ⟨#[]⟩] 33) :: boxR x14 (.cells #[.int .i64 0, .int .i64 0, .string ⟨#[]⟩] 33) :: valsR (.slice la L.length lc) L :: boxR x10 (.cells #[.int .i64 c.kind, .int .i64 c.n, .string c.s] 33) :: valsR (.slice oa out.length oc) out :: heapR h (inst1 H c) :: boxR b (.cells #[sB, sH] 25) :: []) _ := S
        rw [He1.out]
        obtain ⟨x20, hx20⟩ : ∃ gx_, (w7.heap.size) = gx_ := ⟨_, rfl⟩
        replace S := (S.alloc (.cells #[.int .i64 r.kind, .int .i64 r.n, .string r.s] 33))
        simp only [World.size_alloc, hx20] at S
        replace S : Sep w (boxR x20 (.cells #[.int .i64 r.kind, .int .i64 r.n, .string r.s] 33) :: boxR x18 (.cells #[.int .i64 0, .int .i64 0, .string ⟨#[]⟩] 33) :: boxR x14 (.cells #[.int .i64 0, .int .i64 0, .string ⟨#[]⟩] 33) :: valsR (.slice la L.length lc) L :: boxR x10 (.cells #[.int .i64 c.kind, .int .i64 c.n, .string c.s] 33) :: valsR (.slice oa out.length oc) out :: heapR h (inst1 H c) :: boxR b (.cells #[sB, sH] 25) :: []) _ := S
        have d0 := cellAt (S.box (b := x20) 0 rfl) 0 (v := .int .i64 r.kind) rfl
        have d1 := cellAt (S.box (b := x20) 0 rfl) 1 (v := .int .i64 r.n) rfl
        have d2 := cellAt (S.box (b := x20) 0 rfl) 2 (v := .string r.s) rfl
        have M := Lib.hid (kf_get S 6 rfl HPL.out.2.1 (by omega) r s hsl none HPL.out.1.1.2.1)
        clear S
        go_wp2_with fail
        try simp only [hx20]
        refine M.out.mono ?_
        rintro e w8 ⟨rfl, S⟩
        clear M d0 d1 d2 hx20
        try simp only [valE, excE, Option.isSome_some, Option.isSome_none]
        replace S : Sep w (boxR x20 (.cells #[.int .i64 r.kind, .int .i64 r.n, .string r.s] 33) :: boxR x18 (.cells #[.int .i64 0, .int .i64 0, .string ⟨#[]⟩] 33) :: boxR x14 (.cells #[.int .i64 0, .int .i64 0, .string ⟨#[]⟩] 33) :: valsR (.slice la L.length lc) L :: boxR x10 (.cells #[.int .i64 c.kind, .int .i64 c.n, .string c.s] 33) :: valsR (.slice oa out.length oc) out :: heapR h (inst1 H c) :: boxR b (.cells #[sB, sH] 25) :: []) _ := S
        obtain ⟨x22, hx22⟩ : ∃ gx_, (w8.heap.size) = gx_ := ⟨_, rfl⟩
        replace S := ((S.alloc (.cells #[.int .i64 0, .int .i64 0, .string ⟨#[]⟩] 33)).alloc (.cells #[.string attrError, .int .i64 3, .int .i64 0, .string s, .bool true] 45))
        simp only [World.size_alloc, hx22] at S
        replace S : Sep w (boxR (x22 + 1) (.cells #[.string attrError, .int .i64 3, .int .i64 0, .string s, .bool true] 45) :: boxR x22 (.cells #[.int .i64 0, .int .i64 0, .string ⟨#[]⟩] 33) :: boxR x20 (.cells #[.int .i64 r.kind, .int .i64 r.n, .string r.s] 33) :: boxR x18 (.cells #[.int .i64 0, .int .i64 0, .string ⟨#[]⟩] 33) :: boxR x14 (.cells #[.int .i64 0, .int .i64 0, .string ⟨#[]⟩] 33) :: valsR (.slice la L.length lc) L :: boxR x10 (.cells #[.int .i64 c.kind, .int .i64 c.n, .string c.s] 33) :: valsR (.slice oa out.length oc) out :: heapR h (inst1 H c) :: boxR b (.cells #[sB, sH] 25) :: []) _ := S
        have d0 := cellAt (S.box (b := x18) 3 rfl) 0 (v := .int .i64 0) rfl
        have d1 := cellAt (S.box (b := x18) 3 rfl) 1 (v := .int .i64 0) rfl
        have d2 := cellAt (S.box (b := x18) 3 rfl) 2 (v := .string ⟨#[]⟩) rfl
        have d3 := cellAt (S.box (b := x14) 4 rfl) 0 (v := .int .i64 0) rfl
        have d4 := cellAt (S.box (b := x14) 4 rfl) 1 (v := .int .i64 0) rfl
        have d5 := cellAt (S.box (b := x14) 4 rfl) 2 (v := .string ⟨#[]⟩) rfl
        have d6 := cellAt (S.box (b := x22) 1 rfl) 0 (v := .int .i64 0) rfl
        have d7 := cellAt (S.box (b := x22) 1 rfl) 1 (v := .int .i64 0) rfl
        have d8 := cellAt (S.box (b := x22) 1 rfl) 2 (v := .string ⟨#[]⟩) rfl
        have d9 := cellAt (S.box (b := x22 + 1) 0 rfl) 0 (v := .string attrError) rfl
        have d10 := cellAt (S.box (b := x22 + 1) 0 rfl) 1 (v := .int .i64 3) rfl
        have d11 := cellAt (S.box (b := x22 + 1) 0 rfl) 2 (v := .int .i64 0) rfl
        have d12 := cellAt (S.box (b := x22 + 1) 0 rfl) 3 (v := .string s) rfl
        have d13 := cellAt (S.box (b := x22 + 1) 0 rfl) 4 (v := .bool true) rfl
        have EZ : ∀ W, (binOp .eql 45 (excA s) excZ).run Try.prog W = .ok (.bool false) W := fun W => by go_simp
        obtain ⟨baseA, hbaseA⟩ : ∃ base, base = boxR (x22 + 1) (.cells #[.string attrError, .int .i64 3, .int .i64 0, .string s, .bool true] 45) :: boxR x22 (.cells #[.int .i64 0, .int .i64 0, .string ⟨#[]⟩] 33) :: boxR x20 (.cells #[.int .i64 r.kind, .int .i64 r.n, .string r.s] 33) :: boxR x18 (.cells #[.int .i64 0, .int .i64 0, .string ⟨#[]⟩] 33) :: boxR x14 (.cells #[.int .i64 0, .int .i64 0, .string ⟨#[]⟩] 33) :: valsR (.slice la L.length lc) L :: boxR x10 (.cells #[.int .i64 c.kind, .int .i64 c.n, .string c.s] 33) :: valsR (.slice oa out.length oc) out :: heapR h (inst1 H c) :: boxR b (.cells #[sB, sH] 25) :: [] := ⟨_, rfl⟩
        have HbaseA := Lib.hid hbaseA
        have KbaseA : Hid (∀ W (Q : List Res), Sep w (Q ++ baseA) W → W.cell? ⟨x20, 0, none⟩ = some (.int .i64 r.kind) ∧ W.cell? ⟨x20, 1, none⟩ = some (.int .i64 r.n) ∧ W.cell? ⟨x20, 2, none⟩ = some (.string r.s)) := Lib.hid fun W Q T => by
          rw [hbaseA] at T
          have i0 := T.box (b := x20) (o := .cells #[.int .i64 r.kind, .int .i64 r.n, .string r.s] 33) (Q.length + 2) (by rw [List.getElem?_append_right (by omega), Nat.add_sub_cancel_left]; rfl)
          exact ⟨cellAt i0 0 rfl, cellAt i0 1 rfl, cellAt i0 2 rfl⟩
        obtain ⟨baseB, hbaseB⟩ : ∃ base, base = boxR (x22 + 1) (.cells #[.string attrError, .int .i64 3, .int .i64 0, .string s, .bool true] 45) :: boxR x22 (.cells #[.int .i64 0, .int .i64 0, .string ⟨#[]⟩] 33) :: boxR x20 (.cells #[.int .i64 r.kind, .int .i64 r.n, .string r.s] 33) :: boxR x18 (.cells #[.int .i64 0, .int .i64 0, .string ⟨#[]⟩] 33) :: boxR x14 (.cells #[.int .i64 0, .int .i64 0, .string ⟨#[]⟩] 33) :: valsR (.slice la L.length lc) L :: boxR x10 (.cells #[.int .i64 c.kind, .int .i64 c.n, .string c.s] 33) :: valsR (.slice oa out.length oc) out :: heapR h ((inst1 H c).put r (keyS s hsl) y7) :: boxR b (.cells #[sB, sH] 25) :: [] := ⟨_, rfl⟩
        have HbaseB := Lib.hid hbaseB
        have KbaseB : Hid (∀ W (Q : List Res), Sep w (Q ++ baseB) W → W.cell? ⟨x20, 0, none⟩ = some (.int .i64 r.kind) ∧ W.cell? ⟨x20, 1, none⟩ = some (.int .i64 r.n) ∧ W.cell? ⟨x20, 2, none⟩ = some (.string r.s)) := Lib.hid fun W Q T => by
          rw [hbaseB] at T
          have i0 := T.box (b := x20) (o := .cells #[.int .i64 r.kind, .int .i64 r.n, .string r.s] 33) (Q.length + 2) (by rw [List.getElem?_append_right (by omega), Nat.add_sub_cancel_left]; rfl)
          exact ⟨cellAt i0 0 rfl, cellAt i0 1 rfl, cellAt i0 2 rfl⟩
        have KN : Hid (∀ W (Q : List Res), Sep w (Q ++ baseA) W → Calls Try.prog 29 #[.int .i64 77] W fun e W' => e = .returned (.agg #[.int .i64 2, .int .i64 77, .string ⟨#[]⟩]) ∧ Sep w (Q ++ baseA) W') := Lib.hid fun W Q T => by
          exact (num_ok W _).mono fun e W' ⟨e1, e2⟩ => ⟨e1, T.later e2⟩
        have KT : Hid (∀ W (Q : List Res), Sep w (Q ++ baseA) W → Calls Try.prog 20 #[.pointer (some ⟨h, 0, none⟩), .agg #[.int .i64 r.kind, .int .i64 r.n, .string r.s], .string s, .agg #[.int .i64 2, .int .i64 77, .string ⟨#[]⟩]] W fun e W' => e = .returned (excZ) ∧ Sep w (Q ++ baseB) W') := Lib.hid fun W Q T => by
          rw [HbaseA.out] at T
          rw [HbaseB.out]
          have hh := kf_set T (Q.length + 8) (by rw [List.getElem?_append_right (by omega), Nat.add_sub_cancel_left]; rfl) r y7 s hsl HPL.out.1.1.1 HPL.out.1.1.2.2
          try rw [List.set_append_right _ _ (by omega), Nat.add_sub_cancel_left] at hh
          rw [Hy7.out] at hh
          rw [Hy7.out]
          exact hh
        replace S : Sep w baseA ((w8.alloc (.cells #[.int .i64 0, .int .i64 0, .string ⟨#[]⟩] 33)).alloc (.cells #[.string attrError, .int .i64 3, .int .i64 0, .string s, .bool true] 45)) := by rw [hbaseA]; exact S
        replace S := Lib.hid S
        clear hbaseA hbaseB
        go_upto_region 22 with fail
        try simp only [hx22]
        obtain ⟨Wd22, hW⟩ : ∃ gx_, (((w8.alloc (.cells #[.int .i64 0, .int .i64 0, .string ⟨#[]⟩] 33)).alloc (.cells #[.string attrError, .int .i64 3, .int .i64 0, .string s, .bool true] 45))) = gx_ := ⟨_, rfl⟩
        rw [hW] at S ⊢
        clear hW hx22
        clear d0 d1 d2 d3 d4 d5 d6 d7 d8 d9 d10 d11 d12 d13 EZ
        go_cut [24] from 33 (fun s24 wx => ∃ qx, s24 = .pointer (some ⟨qx, 0, none⟩) ∧ Sep w (boxR qx (.cells #[.string ⟨#[]⟩, .int .i64 0, .int .i64 0, .string ⟨#[]⟩, .bool false] 45) :: baseB) wx)
        case first =>
          have T0 : Sep w ([] ++ baseA) _ := S.out.drew
          clear S
          as_aux_lemma =>
            refine wp_region_held_drew (S := fun W => W.cell? ⟨x20, 0, none⟩ = some (.int .i64 r.kind) ∧ W.cell? ⟨x20, 1, none⟩ = some (.int .i64 r.n) ∧ W.cell? ⟨x20, 2, none⟩ = some (.string r.s)) (by kernel_rfl) (KbaseA.out _ [] T0) (fun hH => ?_)
            refine takeT 0 hH (hy := .inl ⟨by rfl, by (intro w hSw; try obtain ⟨u0, u1, u2⟩ := hSw); (go_simp; try rfl)⟩) (h := ?_)
            simp only [Act.put, List.setIfInBounds_toArray, List.set_cons_zero, List.set_cons_succ]
            refine takeT 1 hH (hy := .inl ⟨by rfl, by (intro w hSw; try obtain ⟨u0, u1, u2⟩ := hSw); (go_simp; try rfl)⟩) (h := ?_)
            simp only [Act.put, List.setIfInBounds_toArray, List.set_cons_zero, List.set_cons_succ]
            refine takeT 2 hH (hy := .inl ⟨by rfl, by (intro w hSw; try obtain ⟨u0, u1, u2⟩ := hSw); (go_simp; try rfl)⟩) (h := ?_)
            simp only [Act.put, List.setIfInBounds_toArray, List.set_cons_zero, List.set_cons_succ]
            refine readyT [3, 5] ?_
            refine consT (fun K hK => ?_) (consT (fun K hK => ?_) AllReadyH.nil)
            · go_simp
              go_wp2_with (go_at_call 29; refine (KN.out _ [] T0).mono ?_; rintro e w1 ⟨rfl, T1⟩)
              clear hH
              refine hK.out _ _ (KbaseA.out _ [] T1) (fun hH => ?_)
              clear hK K
              refine readyT [4, 5] ?_
              refine consT (fun K hK => ?_) (consT (fun K hK => ?_) AllReadyH.nil)
              · go_simp
                go_wp2_with (go_at_call 20; refine (KT.out _ [] T1).mono ?_; rintro e w2 ⟨rfl, T2⟩)
                clear hH
                refine hK.out _ _ (KbaseB.out _ [] T2) (fun hH => ?_)
                clear hK K
                refine readyT [5] ?_
                refine consT (fun K hK => ?_) AllReadyH.nil
                go_simp
                have T3 : Sep w ([boxR _ (.cells #[.string ⟨#[]⟩, .int .i64 0, .int .i64 0, .string ⟨#[]⟩, .bool false] 45)] ++ baseB) _ := Sep.alloc T2 (.cells #[.string ⟨#[]⟩, .int .i64 0, .int .i64 0, .string ⟨#[]⟩, .bool false] 45)
                try simp only [size_drew, World.size_alloc] at T3
                clear hH
                refine hK.out _ _ (KbaseB.out _ [_] T3) (fun hH => ?_)
                clear hK K
                refine readyT [6] ?_
                refine consT (fun K hK => ?_) AllReadyH.nil
                have hz := T3.box 0 rfl
                have z0 := cellAt hz 0 (v := .string ⟨#[]⟩) rfl
                have z1 := cellAt hz 1 (v := .int .i64 0) rfl
                have z2 := cellAt hz 2 (v := .int .i64 0) rfl
                have z3 := cellAt hz 3 (v := .string ⟨#[]⟩) rfl
                have z4 := cellAt hz 4 (v := .bool false) rfl
                have z5 := frozenAt hz 0
                have z6 := frozenAt hz 1
                have z7 := frozenAt hz 2
                have z8 := frozenAt hz 3
                have z9 := frozenAt hz 4
                go_simp
                clear hz z0 z1 z2 z3 z4 z5 z6 z7 z8 z9
                clear hH
                first | (have T4 : Sep w ([boxR _ (.cells #[.string ⟨#[]⟩, .int .i64 0, .int .i64 0, .string ⟨#[]⟩, .bool false] 45)] ++ baseB) _ := (Sep.alloc T2 (.cells #[.string ⟨#[]⟩, .int .i64 0, .int .i64 0, .string ⟨#[]⟩, .bool false] 45)); (try simp only [size_drew, World.size_alloc] at T4); refine hK.out _ _ (KbaseB.out _ [_] T4) (fun hH => ?_)) | (have T4 : Sep w ([boxR _ (.cells #[.string ⟨#[]⟩, .int .i64 0, .int .i64 0, .string ⟨#[]⟩, .bool false] 45)] ++ baseB) _ := (Sep.setBox (cs := #[.string ⟨#[]⟩, .int .i64 0, .int .i64 0, .string ⟨#[]⟩, .bool false]) (t := 45) (Sep.setBox (cs := #[.string ⟨#[]⟩, .int .i64 0, .int .i64 0, .string ⟨#[]⟩, .bool false]) (t := 45) (Sep.setBox (cs := #[.string ⟨#[]⟩, .int .i64 0, .int .i64 0, .string ⟨#[]⟩, .bool false]) (t := 45) (Sep.setBox (cs := #[.string ⟨#[]⟩, .int .i64 0, .int .i64 0, .string ⟨#[]⟩, .bool false]) (t := 45) (Sep.setBox (cs := #[.string ⟨#[]⟩, .int .i64 0, .int .i64 0, .string ⟨#[]⟩, .bool false]) (t := 45) T3 0 rfl 0 (.string ⟨#[]⟩)) 0 rfl 1 (.int .i64 0)) 0 rfl 2 (.int .i64 0)) 0 rfl 3 (.string ⟨#[]⟩)) 0 rfl 4 (.bool false)); (try simp only [size_drew, World.size_alloc] at T4); refine hK.out _ _ (KbaseB.out _ [_] T4) (fun hH => ?_))
                clear hK K
                refine wpAnyH_done (by kernel_rfl) ?_ _
                as_aux_lemma =>
                  go_wp2_with fail
                  go_meet
                  exact ⟨_, rfl, T4⟩
              · go_simp
                have T5 : Sep w ([boxR _ (.cells #[.string ⟨#[]⟩, .int .i64 0, .int .i64 0, .string ⟨#[]⟩, .bool false] 45)] ++ baseA) _ := Sep.alloc T1 (.cells #[.string ⟨#[]⟩, .int .i64 0, .int .i64 0, .string ⟨#[]⟩, .bool false] 45)
                try simp only [size_drew, World.size_alloc] at T5
                clear hH
                refine hK.out _ _ (KbaseA.out _ [_] T5) (fun hH => ?_)
                clear hK K
                refine readyT [4] ?_
                refine consT (fun K hK => ?_) AllReadyH.nil
                go_simp
                go_wp2_with (go_at_call 20; refine (KT.out _ [_] T5).mono ?_; rintro e w6 ⟨rfl, T6⟩)
                clear hH
                refine hK.out _ _ (KbaseB.out _ [_] T6) (fun hH => ?_)
                clear hK K
                refine readyT [6] ?_
                refine consT (fun K hK => ?_) AllReadyH.nil
                have hz := T6.box 0 rfl
                have z0 := cellAt hz 0 (v := .string ⟨#[]⟩) rfl
                have z1 := cellAt hz 1 (v := .int .i64 0) rfl
                have z2 := cellAt hz 2 (v := .int .i64 0) rfl
                have z3 := cellAt hz 3 (v := .string ⟨#[]⟩) rfl
                have z4 := cellAt hz 4 (v := .bool false) rfl
                have z5 := frozenAt hz 0
                have z6 := frozenAt hz 1
                have z7 := frozenAt hz 2
                have z8 := frozenAt hz 3
                have z9 := frozenAt hz 4
                go_simp
                clear hz z0 z1 z2 z3 z4 z5 z6 z7 z8 z9
                clear hH
                have T7 : Sep w ([boxR _ (.cells #[.string ⟨#[]⟩, .int .i64 0, .int .i64 0, .string ⟨#[]⟩, .bool false] 45)] ++ baseB) _ := (Sep.setBox (cs := #[.string ⟨#[]⟩, .int .i64 0, .int .i64 0, .string ⟨#[]⟩, .bool false]) (t := 45) (Sep.setBox (cs := #[.string ⟨#[]⟩, .int .i64 0, .int .i64 0, .string ⟨#[]⟩, .bool false]) (t := 45) (Sep.setBox (cs := #[.string ⟨#[]⟩, .int .i64 0, .int .i64 0, .string ⟨#[]⟩, .bool false]) (t := 45) (Sep.setBox (cs := #[.string ⟨#[]⟩, .int .i64 0, .int .i64 0, .string ⟨#[]⟩, .bool false]) (t := 45) (Sep.setBox (cs := #[.string ⟨#[]⟩, .int .i64 0, .int .i64 0, .string ⟨#[]⟩, .bool false]) (t := 45) T6 0 rfl 0 (.string ⟨#[]⟩)) 0 rfl 1 (.int .i64 0)) 0 rfl 2 (.int .i64 0)) 0 rfl 3 (.string ⟨#[]⟩)) 0 rfl 4 (.bool false))
                try simp only [size_drew, World.size_alloc] at T7
                refine hK.out _ _ (KbaseB.out _ [_] T7) (fun hH => ?_)
                clear hK K
                refine wpAnyH_done (by kernel_rfl) ?_ _
                as_aux_lemma =>
                  go_wp2_with fail
                  go_meet
                  exact ⟨_, rfl, T7⟩
            · go_simp
              have T8 : Sep w ([boxR _ (.cells #[.string ⟨#[]⟩, .int .i64 0, .int .i64 0, .string ⟨#[]⟩, .bool false] 45)] ++ baseA) _ := Sep.alloc T0 (.cells #[.string ⟨#[]⟩, .int .i64 0, .int .i64 0, .string ⟨#[]⟩, .bool false] 45)
              try simp only [size_drew, World.size_alloc] at T8
              clear hH
              refine hK.out _ _ (KbaseA.out _ [_] T8) (fun hH => ?_)
              clear hK K
              refine readyT [3] ?_
              refine consT (fun K hK => ?_) AllReadyH.nil
              go_simp
              go_wp2_with (go_at_call 29; refine (KN.out _ [_] T8).mono ?_; rintro e w9 ⟨rfl, T9⟩)
              clear hH
              refine hK.out _ _ (KbaseA.out _ [_] T9) (fun hH => ?_)
              clear hK K
              refine readyT [4] ?_
              refine consT (fun K hK => ?_) AllReadyH.nil
              go_simp
              go_wp2_with (go_at_call 20; refine (KT.out _ [_] T9).mono ?_; rintro e w10 ⟨rfl, T10⟩)
              clear hH
              refine hK.out _ _ (KbaseB.out _ [_] T10) (fun hH => ?_)
              clear hK K
              refine readyT [6] ?_
              refine consT (fun K hK => ?_) AllReadyH.nil
              have hz := T10.box 0 rfl
              have z0 := cellAt hz 0 (v := .string ⟨#[]⟩) rfl
              have z1 := cellAt hz 1 (v := .int .i64 0) rfl
              have z2 := cellAt hz 2 (v := .int .i64 0) rfl
              have z3 := cellAt hz 3 (v := .string ⟨#[]⟩) rfl
              have z4 := cellAt hz 4 (v := .bool false) rfl
              have z5 := frozenAt hz 0
              have z6 := frozenAt hz 1
              have z7 := frozenAt hz 2
              have z8 := frozenAt hz 3
              have z9 := frozenAt hz 4
              go_simp
              clear hz z0 z1 z2 z3 z4 z5 z6 z7 z8 z9
              clear hH
              have T11 : Sep w ([boxR _ (.cells #[.string ⟨#[]⟩, .int .i64 0, .int .i64 0, .string ⟨#[]⟩, .bool false] 45)] ++ baseB) _ := (Sep.setBox (cs := #[.string ⟨#[]⟩, .int .i64 0, .int .i64 0, .string ⟨#[]⟩, .bool false]) (t := 45) (Sep.setBox (cs := #[.string ⟨#[]⟩, .int .i64 0, .int .i64 0, .string ⟨#[]⟩, .bool false]) (t := 45) (Sep.setBox (cs := #[.string ⟨#[]⟩, .int .i64 0, .int .i64 0, .string ⟨#[]⟩, .bool false]) (t := 45) (Sep.setBox (cs := #[.string ⟨#[]⟩, .int .i64 0, .int .i64 0, .string ⟨#[]⟩, .bool false]) (t := 45) (Sep.setBox (cs := #[.string ⟨#[]⟩, .int .i64 0, .int .i64 0, .string ⟨#[]⟩, .bool false]) (t := 45) T10 0 rfl 0 (.string ⟨#[]⟩)) 0 rfl 1 (.int .i64 0)) 0 rfl 2 (.int .i64 0)) 0 rfl 3 (.string ⟨#[]⟩)) 0 rfl 4 (.bool false))
              try simp only [size_drew, World.size_alloc] at T11
              refine hK.out _ _ (KbaseB.out _ [_] T11) (fun hH => ?_)
              clear hK K
              refine wpAnyH_done (by kernel_rfl) ?_ _
              as_aux_lemma =>
                go_wp2_with fail
                go_meet
                exact ⟨_, rfl, T11⟩
        case rest =>
          obtain ⟨x24, rfl, S⟩ := hcut
          rw [HbaseB.out] at S
          clear KN KT KbaseA KbaseB HbaseA HbaseB
          replace S : Sep w (boxR x24 (.cells #[.string ⟨#[]⟩, .int .i64 0, .int .i64 0, .string ⟨#[]⟩, .bool false] 45) :: boxR (x22 + 1) (.cells #[.string attrError, .int .i64 3, .int .i64 0, .string s, .bool true] 45) :: boxR x22 (.cells #[.int .i64 0, .int .i64 0, .string ⟨#[]⟩] 33) :: boxR x20 (.cells #[.int .i64 r.kind, .int .i64 r.n, .string r.s] 33) :: boxR x18 (.cells #[.int .i64 0, .int .i64 0, .string ⟨#[]⟩] 33) :: boxR x14 (.cells #[.int .i64 0, .int .i64 0, .string ⟨#[]⟩] 33) :: valsR (.slice la L.length lc) L :: boxR x10 (.cells #[.int .i64 c.kind, .int .i64 c.n, .string c.s] 33) :: valsR (.slice oa out.length oc) out :: heapR h ((inst1 H c).put r (keyS s hsl) y7) :: boxR b (.cells #[sB, sH] 25) :: []) _ := S
          have d0 := cellAt (S.box (b := x20) 3 rfl) 0 (v := .int .i64 r.kind) rfl
          have d1 := cellAt (S.box (b := x20) 3 rfl) 1 (v := .int .i64 r.n) rfl
          have d2 := cellAt (S.box (b := x20) 3 rfl) 2 (v := .string r.s) rfl
          have M := Lib.hid (kf_get S 9 rfl HPL.out.2.2.1 (by omega) r s hsl (some y7) HPL.out.1.2.1.2.1)
          clear S
          go_wp2_with fail
          refine M.out.mono ?_
          rintro e w9 ⟨rfl, S⟩
          clear M d0 d1 d2
          try simp only [valE, excE, Option.isSome_some, Option.isSome_none]
          simp only [Hy7.out, valE, excE]
          replace S : Sep w (boxR x24 (.cells #[.string ⟨#[]⟩, .int .i64 0, .int .i64 0, .string ⟨#[]⟩, .bool false] 45) :: boxR (x22 + 1) (.cells #[.string attrError, .int .i64 3, .int .i64 0, .string s, .bool true] 45) :: boxR x22 (.cells #[.int .i64 0, .int .i64 0, .string ⟨#[]⟩] 33) :: boxR x20 (.cells #[.int .i64 r.kind, .int .i64 r.n, .string r.s] 33) :: boxR x18 (.cells #[.int .i64 0, .int .i64 0, .string ⟨#[]⟩] 33) :: boxR x14 (.cells #[.int .i64 0, .int .i64 0, .string ⟨#[]⟩] 33) :: valsR (.slice la L.length lc) L :: boxR x10 (.cells #[.int .i64 c.kind, .int .i64 c.n, .string c.s] 33) :: valsR (.slice oa out.length oc) out :: heapR h ((inst1 H c).put r (keyS s hsl) y7) :: boxR b (.cells #[sB, sH] 25) :: []) _ := S
          obtain ⟨x25, hx25⟩ : ∃ gx_, (w9.heap.size) = gx_ := ⟨_, rfl⟩
          replace S := ((S.alloc (.cells #[.int .i64 2, .int .i64 77, .string ⟨#[]⟩] 33)).alloc (.cells #[.string ⟨#[]⟩, .int .i64 0, .int .i64 0, .string ⟨#[]⟩, .bool false] 45))
          simp only [World.size_alloc, hx25] at S
          replace S : Sep w (boxR (x25 + 1) (.cells #[.string ⟨#[]⟩, .int .i64 0, .int .i64 0, .string ⟨#[]⟩, .bool false] 45) :: boxR x25 (.cells #[.int .i64 2, .int .i64 77, .string ⟨#[]⟩] 33) :: boxR x24 (.cells #[.string ⟨#[]⟩, .int .i64 0, .int .i64 0, .string ⟨#[]⟩, .bool false] 45) :: boxR (x22 + 1) (.cells #[.string attrError, .int .i64 3, .int .i64 0, .string s, .bool true] 45) :: boxR x22 (.cells #[.int .i64 0, .int .i64 0, .string ⟨#[]⟩] 33) :: boxR x20 (.cells #[.int .i64 r.kind, .int .i64 r.n, .string r.s] 33) :: boxR x18 (.cells #[.int .i64 0, .int .i64 0, .string ⟨#[]⟩] 33) :: boxR x14 (.cells #[.int .i64 0, .int .i64 0, .string ⟨#[]⟩] 33) :: valsR (.slice la L.length lc) L :: boxR x10 (.cells #[.int .i64 c.kind, .int .i64 c.n, .string c.s] 33) :: valsR (.slice oa out.length oc) out :: heapR h ((inst1 H c).put r (keyS s hsl) y7) :: boxR b (.cells #[sB, sH] 25) :: []) _ := S
          have d0 := cellAt (S.box (b := x10) 9 rfl) 0 (v := .int .i64 c.kind) rfl
          have d1 := cellAt (S.box (b := x10) 9 rfl) 1 (v := .int .i64 c.n) rfl
          have d2 := cellAt (S.box (b := x10) 9 rfl) 2 (v := .string c.s) rfl
          have M := Lib.hid (kf_find S 11 rfl HPL.out.2.2.1.G (by omega) c s hsl none HPL.out.1.2.1.2.2.1)
          clear S
          go_wp2_with fail
          try simp only [hx25]
          refine M.out.mono ?_
          rintro e w10 ⟨rfl, S⟩
          clear M d0 d1 d2 hx25
          try simp only [valE, excE, Option.isSome_some, Option.isSome_none]
          replace S : Sep w (boxR (x25 + 1) (.cells #[.string ⟨#[]⟩, .int .i64 0, .int .i64 0, .string ⟨#[]⟩, .bool false] 45) :: boxR x25 (.cells #[.int .i64 2, .int .i64 77, .string ⟨#[]⟩] 33) :: boxR x24 (.cells #[.string ⟨#[]⟩, .int .i64 0, .int .i64 0, .string ⟨#[]⟩, .bool false] 45) :: boxR (x22 + 1) (.cells #[.string attrError, .int .i64 3, .int .i64 0, .string s, .bool true] 45) :: boxR x22 (.cells #[.int .i64 0, .int .i64 0, .string ⟨#[]⟩] 33) :: boxR x20 (.cells #[.int .i64 r.kind, .int .i64 r.n, .string r.s] 33) :: boxR x18 (.cells #[.int .i64 0, .int .i64 0, .string ⟨#[]⟩] 33) :: boxR x14 (.cells #[.int .i64 0, .int .i64 0, .string ⟨#[]⟩] 33) :: valsR (.slice la L.length lc) L :: boxR x10 (.cells #[.int .i64 c.kind, .int .i64 c.n, .string c.s] 33) :: valsR (.slice oa out.length oc) out :: heapR h ((inst1 H c).put r (keyS s hsl) y7) :: boxR b (.cells #[sB, sH] 25) :: []) _ := S
          obtain ⟨x27, hx27⟩ : ∃ gx_, (w10.heap.size) = gx_ := ⟨_, rfl⟩
          replace S := (S.alloc (.cells #[.int .i64 0, .int .i64 0, .string ⟨#[]⟩] 33))
          simp only [World.size_alloc, hx27] at S
          replace S : Sep w (boxR x27 (.cells #[.int .i64 0, .int .i64 0, .string ⟨#[]⟩] 33) :: boxR (x25 + 1) (.cells #[.string ⟨#[]⟩, .int .i64 0, .int .i64 0, .string ⟨#[]⟩, .bool false] 45) :: boxR x25 (.cells #[.int .i64 2, .int .i64 77, .string ⟨#[]⟩] 33) :: boxR x24 (.cells #[.string ⟨#[]⟩, .int .i64 0, .int .i64 0, .string ⟨#[]⟩, .bool false] 45) :: boxR (x22 + 1) (.cells #[.string attrError, .int .i64 3, .int .i64 0, .string s, .bool true] 45) :: boxR x22 (.cells #[.int .i64 0, .int .i64 0, .string ⟨#[]⟩] 33) :: boxR x20 (.cells #[.int .i64 r.kind, .int .i64 r.n, .string r.s] 33) :: boxR x18 (.cells #[.int .i64 0, .int .i64 0, .string ⟨#[]⟩] 33) :: boxR x14 (.cells #[.int .i64 0, .int .i64 0, .string ⟨#[]⟩] 33) :: valsR (.slice la L.length lc) L :: boxR x10 (.cells #[.int .i64 c.kind, .int .i64 c.n, .string c.s] 33) :: valsR (.slice oa out.length oc) out :: heapR h ((inst1 H c).put r (keyS s hsl) y7) :: boxR b (.cells #[sB, sH] 25) :: []) _ := S
          have d0 := cellAt (S.box (b := x20) 6 rfl) 0 (v := .int .i64 r.kind) rfl
          have d1 := cellAt (S.box (b := x20) 6 rfl) 1 (v := .int .i64 r.n) rfl
          have d2 := cellAt (S.box (b := x20) 6 rfl) 2 (v := .string r.s) rfl
          have M := Lib.hid (kf_del S 12 rfl r s hsl HPL.out.1.2.1.1 true HPL.out.1.2.1.2.2.2 excZ rfl)
          clear S
          go_wp2_with fail
          try simp only [hx27]
          refine M.out.mono ?_
          rintro e w11 ⟨rfl, S⟩
          clear M d0 d1 d2 hx27
          replace S : Sep w (boxR x27 (.cells #[.int .i64 0, .int .i64 0, .string ⟨#[]⟩] 33) :: boxR (x25 + 1) (.cells #[.string ⟨#[]⟩, .int .i64 0, .int .i64 0, .string ⟨#[]⟩, .bool false] 45) :: boxR x25 (.cells #[.int .i64 2, .int .i64 77, .string ⟨#[]⟩] 33) :: boxR x24 (.cells #[.string ⟨#[]⟩, .int .i64 0, .int .i64 0, .string ⟨#[]⟩, .bool false] 45) :: boxR (x22 + 1) (.cells #[.string attrError, .int .i64 3, .int .i64 0, .string s, .bool true] 45) :: boxR x22 (.cells #[.int .i64 0, .int .i64 0, .string ⟨#[]⟩] 33) :: boxR x20 (.cells #[.int .i64 r.kind, .int .i64 r.n, .string r.s] 33) :: boxR x18 (.cells #[.int .i64 0, .int .i64 0, .string ⟨#[]⟩] 33) :: boxR x14 (.cells #[.int .i64 0, .int .i64 0, .string ⟨#[]⟩] 33) :: valsR (.slice la L.length lc) L :: boxR x10 (.cells #[.int .i64 c.kind, .int .i64 c.n, .string c.s] 33) :: valsR (.slice oa out.length oc) out :: heapR h (((inst1 H c).put r (keyS s hsl) y7).del r (keyS s hsl)) :: boxR b (.cells #[sB, sH] 25) :: []) _ := S
          obtain ⟨x29, hx29⟩ : ∃ gx_, (w11.heap.size) = gx_ := ⟨_, rfl⟩
          replace S := (S.alloc (.cells #[.string ⟨#[]⟩, .int .i64 0, .int .i64 0, .string ⟨#[]⟩, .bool false] 45))
          simp only [World.size_alloc, hx29] at S
          replace S : Sep w (boxR x29 (.cells #[.string ⟨#[]⟩, .int .i64 0, .int .i64 0, .string ⟨#[]⟩, .bool false] 45) :: boxR x27 (.cells #[.int .i64 0, .int .i64 0, .string ⟨#[]⟩] 33) :: boxR (x25 + 1) (.cells #[.string ⟨#[]⟩, .int .i64 0, .int .i64 0, .string ⟨#[]⟩, .bool false] 45) :: boxR x25 (.cells #[.int .i64 2, .int .i64 77, .string ⟨#[]⟩] 33) :: boxR x24 (.cells #[.string ⟨#[]⟩, .int .i64 0, .int .i64 0, .string ⟨#[]⟩, .bool false] 45) :: boxR (x22 + 1) (.cells #[.string attrError, .int .i64 3, .int .i64 0, .string s, .bool true] 45) :: boxR x22 (.cells #[.int .i64 0, .int .i64 0, .string ⟨#[]⟩] 33) :: boxR x20 (.cells #[.int .i64 r.kind, .int .i64 r.n, .string r.s] 33) :: boxR x18 (.cells #[.int .i64 0, .int .i64 0, .string ⟨#[]⟩] 33) :: boxR x14 (.cells #[.int .i64 0, .int .i64 0, .string ⟨#[]⟩] 33) :: valsR (.slice la L.length lc) L :: boxR x10 (.cells #[.int .i64 c.kind, .int .i64 c.n, .string c.s] 33) :: valsR (.slice oa out.length oc) out :: heapR h (((inst1 H c).put r (keyS s hsl) y7).del r (keyS s hsl)) :: boxR b (.cells #[sB, sH] 25) :: []) _ := S
          have d0 := cellAt (S.box (b := x20) 7 rfl) 0 (v := .int .i64 r.kind) rfl
          have d1 := cellAt (S.box (b := x20) 7 rfl) 1 (v := .int .i64 r.n) rfl
          have d2 := cellAt (S.box (b := x20) 7 rfl) 2 (v := .string r.s) rfl
          have M := Lib.hid (kf_get S 13 rfl HPL.out.2.2.2 (by omega) r s hsl none HPL.out.1.2.2.2.1)
          clear S
          go_wp2_with fail
          try simp only [hx29]
          refine M.out.mono ?_
          rintro e w12 ⟨rfl, S⟩
          clear M d0 d1 d2 hx29
          try simp only [valE, excE, Option.isSome_some, Option.isSome_none]
          replace S : Sep w (boxR x29 (.cells #[.string ⟨#[]⟩, .int .i64 0, .int .i64 0, .string ⟨#[]⟩, .bool false] 45) :: boxR x27 (.cells #[.int .i64 0, .int .i64 0, .string ⟨#[]⟩] 33) :: boxR (x25 + 1) (.cells #[.string ⟨#[]⟩, .int .i64 0, .int .i64 0, .string ⟨#[]⟩, .bool false] 45) :: boxR x25 (.cells #[.int .i64 2, .int .i64 77, .string ⟨#[]⟩] 33) :: boxR x24 (.cells #[.string ⟨#[]⟩, .int .i64 0, .int .i64 0, .string ⟨#[]⟩, .bool false] 45) :: boxR (x22 + 1) (.cells #[.string attrError, .int .i64 3, .int .i64 0, .string s, .bool true] 45) :: boxR x22 (.cells #[.int .i64 0, .int .i64 0, .string ⟨#[]⟩] 33) :: boxR x20 (.cells #[.int .i64 r.kind, .int .i64 r.n, .string r.s] 33) :: boxR x18 (.cells #[.int .i64 0, .int .i64 0, .string ⟨#[]⟩] 33) :: boxR x14 (.cells #[.int .i64 0, .int .i64 0, .string ⟨#[]⟩] 33) :: valsR (.slice la L.length lc) L :: boxR x10 (.cells #[.int .i64 c.kind, .int .i64 c.n, .string c.s] 33) :: valsR (.slice oa out.length oc) out :: heapR h (((inst1 H c).put r (keyS s hsl) y7).del r (keyS s hsl)) :: boxR b (.cells #[sB, sH] 25) :: []) _ := S
          obtain ⟨x30, hx30⟩ : ∃ gx_, (w12.heap.size) = gx_ := ⟨_, rfl⟩
          replace S := ((S.alloc (.cells #[.int .i64 0, .int .i64 0, .string ⟨#[]⟩] 33)).alloc (.cells #[.string attrError, .int .i64 3, .int .i64 0, .string s, .bool true] 45))
          simp only [World.size_alloc, hx30] at S
          replace S : Sep w (boxR (x30 + 1) (.cells #[.string attrError, .int .i64 3, .int .i64 0, .string s, .bool true] 45) :: boxR x30 (.cells #[.int .i64 0, .int .i64 0, .string ⟨#[]⟩] 33) :: boxR x29 (.cells #[.string ⟨#[]⟩, .int .i64 0, .int .i64 0, .string ⟨#[]⟩, .bool false] 45) :: boxR x27 (.cells #[.int .i64 0, .int .i64 0, .string ⟨#[]⟩] 33) :: boxR (x25 + 1) (.cells #[.string ⟨#[]⟩, .int .i64 0, .int .i64 0, .string ⟨#[]⟩, .bool false] 45) :: boxR x25 (.cells #[.int .i64 2, .int .i64 77, .string ⟨#[]⟩] 33) :: boxR x24 (.cells #[.string ⟨#[]⟩, .int .i64 0, .int .i64 0, .string ⟨#[]⟩, .bool false] 45) :: boxR (x22 + 1) (.cells #[.string attrError, .int .i64 3, .int .i64 0, .string s, .bool true] 45) :: boxR x22 (.cells #[.int .i64 0, .int .i64 0, .string ⟨#[]⟩] 33) :: boxR x20 (.cells #[.int .i64 r.kind, .int .i64 r.n, .string r.s] 33) :: boxR x18 (.cells #[.int .i64 0, .int .i64 0, .string ⟨#[]⟩] 33) :: boxR x14 (.cells #[.int .i64 0, .int .i64 0, .string ⟨#[]⟩] 33) :: valsR (.slice la L.length lc) L :: boxR x10 (.cells #[.int .i64 c.kind, .int .i64 c.n, .string c.s] 33) :: valsR (.slice oa out.length oc) out :: heapR h (((inst1 H c).put r (keyS s hsl) y7).del r (keyS s hsl)) :: boxR b (.cells #[sB, sH] 25) :: []) _ := S
          have d0 := cellAt (S.box (b := x20) 9 rfl) 0 (v := .int .i64 r.kind) rfl
          have d1 := cellAt (S.box (b := x20) 9 rfl) 1 (v := .int .i64 r.n) rfl
          have d2 := cellAt (S.box (b := x20) 9 rfl) 2 (v := .string r.s) rfl
          have M := Lib.hid (kf_del S 15 rfl r s hsl HPL.out.1.2.2.1 false HPL.out.1.2.2.2.2 (excA s) rfl)
          clear S
          go_wp2_with fail
          try simp only [hx30]
          refine M.out.mono ?_
          rintro e w13 ⟨rfl, S⟩
          clear M d0 d1 d2 hx30
          replace S : Sep w (boxR (x30 + 1) (.cells #[.string attrError, .int .i64 3, .int .i64 0, .string s, .bool true] 45) :: boxR x30 (.cells #[.int .i64 0, .int .i64 0, .string ⟨#[]⟩] 33) :: boxR x29 (.cells #[.string ⟨#[]⟩, .int .i64 0, .int .i64 0, .string ⟨#[]⟩, .bool false] 45) :: boxR x27 (.cells #[.int .i64 0, .int .i64 0, .string ⟨#[]⟩] 33) :: boxR (x25 + 1) (.cells #[.string ⟨#[]⟩, .int .i64 0, .int .i64 0, .string ⟨#[]⟩, .bool false] 45) :: boxR x25 (.cells #[.int .i64 2, .int .i64 77, .string ⟨#[]⟩] 33) :: boxR x24 (.cells #[.string ⟨#[]⟩, .int .i64 0, .int .i64 0, .string ⟨#[]⟩, .bool false] 45) :: boxR (x22 + 1) (.cells #[.string attrError, .int .i64 3, .int .i64 0, .string s, .bool true] 45) :: boxR x22 (.cells #[.int .i64 0, .int .i64 0, .string ⟨#[]⟩] 33) :: boxR x20 (.cells #[.int .i64 r.kind, .int .i64 r.n, .string r.s] 33) :: boxR x18 (.cells #[.int .i64 0, .int .i64 0, .string ⟨#[]⟩] 33) :: boxR x14 (.cells #[.int .i64 0, .int .i64 0, .string ⟨#[]⟩] 33) :: valsR (.slice la L.length lc) L :: boxR x10 (.cells #[.int .i64 c.kind, .int .i64 c.n, .string c.s] 33) :: valsR (.slice oa out.length oc) out :: heapR h ((((inst1 H c).put r (keyS s hsl) y7).del r (keyS s hsl)).del r (keyS s hsl)) :: boxR b (.cells #[sB, sH] 25) :: []) _ := S
          obtain ⟨x32, hx32⟩ : ∃ gx_, (w13.heap.size) = gx_ := ⟨_, rfl⟩
          replace S := (S.alloc (.cells #[.string attrError, .int .i64 3, .int .i64 0, .string s, .bool true] 45))
          simp only [World.size_alloc, hx32] at S
          replace S : Sep w (boxR x32 (.cells #[.string attrError, .int .i64 3, .int .i64 0, .string s, .bool true] 45) :: boxR (x30 + 1) (.cells #[.string attrError, .int .i64 3, .int .i64 0, .string s, .bool true] 45) :: boxR x30 (.cells #[.int .i64 0, .int .i64 0, .string ⟨#[]⟩] 33) :: boxR x29 (.cells #[.string ⟨#[]⟩, .int .i64 0, .int .i64 0, .string ⟨#[]⟩, .bool false] 45) :: boxR x27 (.cells #[.int .i64 0, .int .i64 0, .string ⟨#[]⟩] 33) :: boxR (x25 + 1) (.cells #[.string ⟨#[]⟩, .int .i64 0, .int .i64 0, .string ⟨#[]⟩, .bool false] 45) :: boxR x25 (.cells #[.int .i64 2, .int .i64 77, .string ⟨#[]⟩] 33) :: boxR x24 (.cells #[.string ⟨#[]⟩, .int .i64 0, .int .i64 0, .string ⟨#[]⟩, .bool false] 45) :: boxR (x22 + 1) (.cells #[.string attrError, .int .i64 3, .int .i64 0, .string s, .bool true] 45) :: boxR x22 (.cells #[.int .i64 0, .int .i64 0, .string ⟨#[]⟩] 33) :: boxR x20 (.cells #[.int .i64 r.kind, .int .i64 r.n, .string r.s] 33) :: boxR x18 (.cells #[.int .i64 0, .int .i64 0, .string ⟨#[]⟩] 33) :: boxR x14 (.cells #[.int .i64 0, .int .i64 0, .string ⟨#[]⟩] 33) :: valsR (.slice la L.length lc) L :: boxR x10 (.cells #[.int .i64 c.kind, .int .i64 c.n, .string c.s] 33) :: valsR (.slice oa out.length oc) out :: heapR h ((((inst1 H c).put r (keyS s hsl) y7).del r (keyS s hsl)).del r (keyS s hsl)) :: boxR b (.cells #[sB, sH] 25) :: []) _ := S
          have EE : ∀ W, (binOp .eql 45 (excA s) (excA s)).run Try.prog W = .ok (.bool true) W := fun W => by go_simp
          have EZ : ∀ W, (binOp .eql 45 excZ excZ).run Try.prog W = .ok (.bool true) W := fun W => by go_simp
          obtain ⟨baseA, hbaseA⟩ : ∃ base, base = boxR x32 (.cells #[.string attrError, .int .i64 3, .int .i64 0, .string s, .bool true] 45) :: boxR (x30 + 1) (.cells #[.string attrError, .int .i64 3, .int .i64 0, .string s, .bool true] 45) :: boxR x30 (.cells #[.int .i64 0, .int .i64 0, .string ⟨#[]⟩] 33) :: boxR x29 (.cells #[.string ⟨#[]⟩, .int .i64 0, .int .i64 0, .string ⟨#[]⟩, .bool false] 45) :: boxR x27 (.cells #[.int .i64 0, .int .i64 0, .string ⟨#[]⟩] 33) :: boxR (x25 + 1) (.cells #[.string ⟨#[]⟩, .int .i64 0, .int .i64 0, .string ⟨#[]⟩, .bool false] 45) :: boxR x25 (.cells #[.int .i64 2, .int .i64 77, .string ⟨#[]⟩] 33) :: boxR x24 (.cells #[.string ⟨#[]⟩, .int .i64 0, .int .i64 0, .string ⟨#[]⟩, .bool false] 45) :: boxR (x22 + 1) (.cells #[.string attrError, .int .i64 3, .int .i64 0, .string s, .bool true] 45) :: boxR x22 (.cells #[.int .i64 0, .int .i64 0, .string ⟨#[]⟩] 33) :: boxR x20 (.cells #[.int .i64 r.kind, .int .i64 r.n, .string r.s] 33) :: boxR x18 (.cells #[.int .i64 0, .int .i64 0, .string ⟨#[]⟩] 33) :: boxR x14 (.cells #[.int .i64 0, .int .i64 0, .string ⟨#[]⟩] 33) :: valsR (.slice la L.length lc) L :: boxR x10 (.cells #[.int .i64 c.kind, .int .i64 c.n, .string c.s] 33) :: valsR (.slice oa out.length oc) out :: heapR h ((((inst1 H c).put r (keyS s hsl) y7).del r (keyS s hsl)).del r (keyS s hsl)) :: boxR b (.cells #[sB, sH] 25) :: [] := ⟨_, rfl⟩
          have HbaseA := Lib.hid hbaseA
          have KbaseA : Hid (∀ W (Q : List Res), Sep w (Q ++ baseA) W → W.cell? ⟨x24, 0, none⟩ = some (.string ⟨#[]⟩) ∧ W.cell? ⟨x24, 1, none⟩ = some (.int .i64 0) ∧ W.cell? ⟨x24, 2, none⟩ = some (.int .i64 0) ∧ W.cell? ⟨x24, 3, none⟩ = some (.string ⟨#[]⟩) ∧ W.cell? ⟨x24, 4, none⟩ = some (.bool false) ∧ W.cell? ⟨x25, 0, none⟩ = some (.int .i64 2) ∧ W.cell? ⟨x25, 1, none⟩ = some (.int .i64 77) ∧ W.cell? ⟨x25, 2, none⟩ = some (.string ⟨#[]⟩) ∧ W.cell? ⟨x25 + 1, 0, none⟩ = some (.string ⟨#[]⟩) ∧ W.cell? ⟨x25 + 1, 1, none⟩ = some (.int .i64 0) ∧ W.cell? ⟨x25 + 1, 2, none⟩ = some (.int .i64 0) ∧ W.cell? ⟨x25 + 1, 3, none⟩ = some (.string ⟨#[]⟩) ∧ W.cell? ⟨x25 + 1, 4, none⟩ = some (.bool false) ∧ W.cell? ⟨x27, 0, none⟩ = some (.int .i64 0) ∧ W.cell? ⟨x27, 1, none⟩ = some (.int .i64 0) ∧ W.cell? ⟨x27, 2, none⟩ = some (.string ⟨#[]⟩) ∧ W.cell? ⟨x14, 0, none⟩ = some (.int .i64 0) ∧ W.cell? ⟨x14, 1, none⟩ = some (.int .i64 0) ∧ W.cell? ⟨x14, 2, none⟩ = some (.string ⟨#[]⟩) ∧ W.cell? ⟨x29, 0, none⟩ = some (.string ⟨#[]⟩) ∧ W.cell? ⟨x29, 1, none⟩ = some (.int .i64 0) ∧ W.cell? ⟨x29, 2, none⟩ = some (.int .i64 0) ∧ W.cell? ⟨x29, 3, none⟩ = some (.string ⟨#[]⟩) ∧ W.cell? ⟨x29, 4, none⟩ = some (.bool false) ∧ W.cell? ⟨x30, 0, none⟩ = some (.int .i64 0) ∧ W.cell? ⟨x30, 1, none⟩ = some (.int .i64 0) ∧ W.cell? ⟨x30, 2, none⟩ = some (.string ⟨#[]⟩) ∧ W.cell? ⟨x30 + 1, 0, none⟩ = some (.string attrError) ∧ W.cell? ⟨x30 + 1, 1, none⟩ = some (.int .i64 3) ∧ W.cell? ⟨x30 + 1, 2, none⟩ = some (.int .i64 0) ∧ W.cell? ⟨x30 + 1, 3, none⟩ = some (.string s) ∧ W.cell? ⟨x30 + 1, 4, none⟩ = some (.bool true) ∧ W.cell? ⟨x22 + 1, 0, none⟩ = some (.string attrError) ∧ W.cell? ⟨x22 + 1, 1, none⟩ = some (.int .i64 3) ∧ W.cell? ⟨x22 + 1, 2, none⟩ = some (.int .i64 0) ∧ W.cell? ⟨x22 + 1, 3, none⟩ = some (.string s) ∧ W.cell? ⟨x22 + 1, 4, none⟩ = some (.bool true) ∧ W.cell? ⟨x32, 0, none⟩ = some (.string attrError) ∧ W.cell? ⟨x32, 1, none⟩ = some (.int .i64 3) ∧ W.cell? ⟨x32, 2, none⟩ = some (.int .i64 0) ∧ W.cell? ⟨x32, 3, none⟩ = some (.string s) ∧ W.cell? ⟨x32, 4, none⟩ = some (.bool true)) := Lib.hid fun W Q T => by
            rw [hbaseA] at T
            have i0 := T.box (b := x24) (o := .cells #[.string ⟨#[]⟩, .int .i64 0, .int .i64 0, .string ⟨#[]⟩, .bool false] 45) (Q.length + 7) (by rw [List.getElem?_append_right (by omega), Nat.add_sub_cancel_left]; rfl)
            have i1 := T.box (b := x25) (o := .cells #[.int .i64 2, .int .i64 77, .string ⟨#[]⟩] 33) (Q.length + 6) (by rw [List.getElem?_append_right (by omega), Nat.add_sub_cancel_left]; rfl)
            have i2 := T.box (b := x25 + 1) (o := .cells #[.string ⟨#[]⟩, .int .i64 0, .int .i64 0, .string ⟨#[]⟩, .bool false] 45) (Q.length + 5) (by rw [List.getElem?_append_right (by omega), Nat.add_sub_cancel_left]; rfl)
            have i3 := T.box (b := x27) (o := .cells #[.int .i64 0, .int .i64 0, .string ⟨#[]⟩] 33) (Q.length + 4) (by rw [List.getElem?_append_right (by omega), Nat.add_sub_cancel_left]; rfl)
            have i4 := T.box (b := x14) (o := .cells #[.int .i64 0, .int .i64 0, .string ⟨#[]⟩] 33) (Q.length + 12) (by rw [List.getElem?_append_right (by omega), Nat.add_sub_cancel_left]; rfl)
            have i5 := T.box (b := x29) (o := .cells #[.string ⟨#[]⟩, .int .i64 0, .int .i64 0, .string ⟨#[]⟩, .bool false] 45) (Q.length + 3) (by rw [List.getElem?_append_right (by omega), Nat.add_sub_cancel_left]; rfl)
            have i6 := T.box (b := x30) (o := .cells #[.int .i64 0, .int .i64 0, .string ⟨#[]⟩] 33) (Q.length + 2) (by rw [List.getElem?_append_right (by omega), Nat.add_sub_cancel_left]; rfl)
            have i7 := T.box (b := x30 + 1) (o := .cells #[.string attrError, .int .i64 3, .int .i64 0, .string s, .bool true] 45) (Q.length + 1) (by rw [List.getElem?_append_right (by omega), Nat.add_sub_cancel_left]; rfl)
            have i8 := T.box (b := x22 + 1) (o := .cells #[.string attrError, .int .i64 3, .int .i64 0, .string s, .bool true] 45) (Q.length + 8) (by rw [List.getElem?_append_right (by omega), Nat.add_sub_cancel_left]; rfl)
            have i9 := T.box (b := x32) (o := .cells #[.string attrError, .int .i64 3, .int .i64 0, .string s, .bool true] 45) (Q.length + 0) (by rw [List.getElem?_append_right (by omega), Nat.add_sub_cancel_left]; rfl)
            exact ⟨cellAt i0 0 rfl, cellAt i0 1 rfl, cellAt i0 2 rfl, cellAt i0 3 rfl, cellAt i0 4 rfl, cellAt i1 0 rfl, cellAt i1 1 rfl, cellAt i1 2 rfl, cellAt i2 0 rfl, cellAt i2 1 rfl, cellAt i2 2 rfl, cellAt i2 3 rfl, cellAt i2 4 rfl, cellAt i3 0 rfl, cellAt i3 1 rfl, cellAt i3 2 rfl, cellAt i4 0 rfl, cellAt i4 1 rfl, cellAt i4 2 rfl, cellAt i5 0 rfl, cellAt i5 1 rfl, cellAt i5 2 rfl, cellAt i5 3 rfl, cellAt i5 4 rfl, cellAt i6 0 rfl, cellAt i6 1 rfl, cellAt i6 2 rfl, cellAt i7 0 rfl, cellAt i7 1 rfl, cellAt i7 2 rfl, cellAt i7 3 rfl, cellAt i7 4 rfl, cellAt i8 0 rfl, cellAt i8 1 rfl, cellAt i8 2 rfl, cellAt i8 3 rfl, cellAt i8 4 rfl, cellAt i9 0 rfl, cellAt i9 1 rfl, cellAt i9 2 rfl, cellAt i9 3 rfl, cellAt i9 4 rfl⟩
          have KN : Hid (∀ W (Q : List Res), Sep w (Q ++ baseA) W → Calls Try.prog 29 #[.int .i64 77] W fun e W' => e = .returned (.agg #[.int .i64 2, .int .i64 77, .string ⟨#[]⟩]) ∧ Sep w (Q ++ baseA) W') := Lib.hid fun W Q T => by
            exact (num_ok W _).mono fun e W' ⟨e1, e2⟩ => ⟨e1, T.later e2⟩
          replace S : Sep w baseA (w13.alloc (.cells #[.string attrError, .int .i64 3, .int .i64 0, .string s, .bool true] 45)) := by rw [hbaseA]; exact S
          replace S := Lib.hid S
          clear hbaseA
          go_upto_region 28 with fail
          try simp only [hx32]
          obtain ⟨Wd28, hW⟩ : ∃ gx_, ((w13.alloc (.cells #[.string attrError, .int .i64 3, .int .i64 0, .string s, .bool true] 45))) = gx_ := ⟨_, rfl⟩
          rw [hW] at S ⊢
          clear hW hx32
          go_cut [6] (fun s6 wx => s6 = .bool true ∧ Below w.heap.size w wx)
          case first =>
            have T0 : Sep w ([] ++ baseA) _ := S.out.drew
            clear S
            as_aux_lemma =>
              refine wp_region_held_drew (S := fun W => W.cell? ⟨x24, 0, none⟩ = some (.string ⟨#[]⟩) ∧ W.cell? ⟨x24, 1, none⟩ = some (.int .i64 0) ∧ W.cell? ⟨x24, 2, none⟩ = some (.int .i64 0) ∧ W.cell? ⟨x24, 3, none⟩ = some (.string ⟨#[]⟩) ∧ W.cell? ⟨x24, 4, none⟩ = some (.bool false) ∧ W.cell? ⟨x25, 0, none⟩ = some (.int .i64 2) ∧ W.cell? ⟨x25, 1, none⟩ = some (.int .i64 77) ∧ W.cell? ⟨x25, 2, none⟩ = some (.string ⟨#[]⟩) ∧ W.cell? ⟨x25 + 1, 0, none⟩ = some (.string ⟨#[]⟩) ∧ W.cell? ⟨x25 + 1, 1, none⟩ = some (.int .i64 0) ∧ W.cell? ⟨x25 + 1, 2, none⟩ = some (.int .i64 0) ∧ W.cell? ⟨x25 + 1, 3, none⟩ = some (.string ⟨#[]⟩) ∧ W.cell? ⟨x25 + 1, 4, none⟩ = some (.bool false) ∧ W.cell? ⟨x27, 0, none⟩ = some (.int .i64 0) ∧ W.cell? ⟨x27, 1, none⟩ = some (.int .i64 0) ∧ W.cell? ⟨x27, 2, none⟩ = some (.string ⟨#[]⟩) ∧ W.cell? ⟨x14, 0, none⟩ = some (.int .i64 0) ∧ W.cell? ⟨x14, 1, none⟩ = some (.int .i64 0) ∧ W.cell? ⟨x14, 2, none⟩ = some (.string ⟨#[]⟩) ∧ W.cell? ⟨x29, 0, none⟩ = some (.string ⟨#[]⟩) ∧ W.cell? ⟨x29, 1, none⟩ = some (.int .i64 0) ∧ W.cell? ⟨x29, 2, none⟩ = some (.int .i64 0) ∧ W.cell? ⟨x29, 3, none⟩ = some (.string ⟨#[]⟩) ∧ W.cell? ⟨x29, 4, none⟩ = some (.bool false) ∧ W.cell? ⟨x30, 0, none⟩ = some (.int .i64 0) ∧ W.cell? ⟨x30, 1, none⟩ = some (.int .i64 0) ∧ W.cell? ⟨x30, 2, none⟩ = some (.string ⟨#[]⟩) ∧ W.cell? ⟨x30 + 1, 0, none⟩ = some (.string attrError) ∧ W.cell? ⟨x30 + 1, 1, none⟩ = some (.int .i64 3) ∧ W.cell? ⟨x30 + 1, 2, none⟩ = some (.int .i64 0) ∧ W.cell? ⟨x30 + 1, 3, none⟩ = some (.string s) ∧ W.cell? ⟨x30 + 1, 4, none⟩ = some (.bool true) ∧ W.cell? ⟨x22 + 1, 0, none⟩ = some (.string attrError) ∧ W.cell? ⟨x22 + 1, 1, none⟩ = some (.int .i64 3) ∧ W.cell? ⟨x22 + 1, 2, none⟩ = some (.int .i64 0) ∧ W.cell? ⟨x22 + 1, 3, none⟩ = some (.string s) ∧ W.cell? ⟨x22 + 1, 4, none⟩ = some (.bool true) ∧ W.cell? ⟨x32, 0, none⟩ = some (.string attrError) ∧ W.cell? ⟨x32, 1, none⟩ = some (.int .i64 3) ∧ W.cell? ⟨x32, 2, none⟩ = some (.int .i64 0) ∧ W.cell? ⟨x32, 3, none⟩ = some (.string s) ∧ W.cell? ⟨x32, 4, none⟩ = some (.bool true)) (by kernel_rfl) (KbaseA.out _ [] T0) (fun hH => ?_)
              refine takeT 0 hH (hy := .inl ⟨by rfl, by (intro w hSw; try obtain ⟨u0, u1, u2, u3, u4, u5, u6, u7, u8, u9, u10, u11, u12, u13, u14, u15, u16, u17, u18, u19, u20, u21, u22, u23, u24, u25, u26, u27, u28, u29, u30, u31, u32, u33, u34, u35, u36, u37, u38, u39, u40, u41⟩ := hSw); (go_simp; try rfl)⟩) (h := ?_)
              simp only [Act.put, List.setIfInBounds_toArray, List.set_cons_zero, List.set_cons_succ]
              refine takeT 1 hH (hy := .inl ⟨by rfl, by (intro w hSw; try obtain ⟨u0, u1, u2, u3, u4, u5, u6, u7, u8, u9, u10, u11, u12, u13, u14, u15, u16, u17, u18, u19, u20, u21, u22, u23, u24, u25, u26, u27, u28, u29, u30, u31, u32, u33, u34, u35, u36, u37, u38, u39, u40, u41⟩ := hSw); (go_simp; try rfl)⟩) (h := ?_)
              simp only [Act.put, List.setIfInBounds_toArray, List.set_cons_zero, List.set_cons_succ]
              refine takeT 2 hH (hy := .inl ⟨by rfl, by (intro w hSw; try obtain ⟨u0, u1, u2, u3, u4, u5, u6, u7, u8, u9, u10, u11, u12, u13, u14, u15, u16, u17, u18, u19, u20, u21, u22, u23, u24, u25, u26, u27, u28, u29, u30, u31, u32, u33, u34, u35, u36, u37, u38, u39, u40, u41⟩ := hSw); (go_simp; try rfl)⟩) (h := ?_)
              simp only [Act.put, List.setIfInBounds_toArray, List.set_cons_zero, List.set_cons_succ]
              refine takeT 3 hH (hy := .inl ⟨by rfl, by (intro w hSw; try obtain ⟨u0, u1, u2, u3, u4, u5, u6, u7, u8, u9, u10, u11, u12, u13, u14, u15, u16, u17, u18, u19, u20, u21, u22, u23, u24, u25, u26, u27, u28, u29, u30, u31, u32, u33, u34, u35, u36, u37, u38, u39, u40, u41⟩ := hSw); (go_simp; try rfl)⟩) (h := ?_)
              simp only [Act.put, List.setIfInBounds_toArray, List.set_cons_zero, List.set_cons_succ]
              refine takeT 4 hH (hy := .inl ⟨by rfl, by (intro w hSw; try obtain ⟨u0, u1, u2, u3, u4, u5, u6, u7, u8, u9, u10, u11, u12, u13, u14, u15, u16, u17, u18, u19, u20, u21, u22, u23, u24, u25, u26, u27, u28, u29, u30, u31, u32, u33, u34, u35, u36, u37, u38, u39, u40, u41⟩ := hSw); (go_simp; try rfl)⟩) (h := ?_)
              simp only [Act.put, List.setIfInBounds_toArray, List.set_cons_zero, List.set_cons_succ]
              refine takeT 5 hH (hy := .inl ⟨by rfl, by (intro w hSw; try obtain ⟨u0, u1, u2, u3, u4, u5, u6, u7, u8, u9, u10, u11, u12, u13, u14, u15, u16, u17, u18, u19, u20, u21, u22, u23, u24, u25, u26, u27, u28, u29, u30, u31, u32, u33, u34, u35, u36, u37, u38, u39, u40, u41⟩ := hSw); (go_simp; try rfl)⟩) (h := ?_)
              simp only [Act.put, List.setIfInBounds_toArray, List.set_cons_zero, List.set_cons_succ]
              refine takeT 6 hH (hy := .inl ⟨by rfl, by (intro w hSw; try obtain ⟨u0, u1, u2, u3, u4, u5, u6, u7, u8, u9, u10, u11, u12, u13, u14, u15, u16, u17, u18, u19, u20, u21, u22, u23, u24, u25, u26, u27, u28, u29, u30, u31, u32, u33, u34, u35, u36, u37, u38, u39, u40, u41⟩ := hSw); (go_simp; try rfl)⟩) (h := ?_)
              simp only [Act.put, List.setIfInBounds_toArray, List.set_cons_zero, List.set_cons_succ]
              refine takeT 7 hH (hy := .inl ⟨by rfl, by (intro w hSw; try obtain ⟨u0, u1, u2, u3, u4, u5, u6, u7, u8, u9, u10, u11, u12, u13, u14, u15, u16, u17, u18, u19, u20, u21, u22, u23, u24, u25, u26, u27, u28, u29, u30, u31, u32, u33, u34, u35, u36, u37, u38, u39, u40, u41⟩ := hSw); (go_simp; try rfl)⟩) (h := ?_)
              simp only [Act.put, List.setIfInBounds_toArray, List.set_cons_zero, List.set_cons_succ]
              refine readyT [8] ?_
              refine consT (fun K hK => ?_) AllReadyH.nil
              go_simp
              go_wp2_with (go_at_call 29; refine (KN.out _ [] T0).mono ?_; rintro e w1 ⟨rfl, T1⟩)
              clear hH
              refine hK.out _ _ (KbaseA.out _ [] T1) (fun hH => ?_)
              clear hK K
              refine takeT 9 hH (hy := .inl ⟨by rfl, by (intro w hSw; try obtain ⟨u0, u1, u2, u3, u4, u5, u6, u7, u8, u9, u10, u11, u12, u13, u14, u15, u16, u17, u18, u19, u20, u21, u22, u23, u24, u25, u26, u27, u28, u29, u30, u31, u32, u33, u34, u35, u36, u37, u38, u39, u40, u41⟩ := hSw); (go_simp; try rfl)⟩) (h := ?_)
              simp only [Act.put, List.setIfInBounds_toArray, List.set_cons_zero, List.set_cons_succ]
              refine takeT 10 hH (hy := .inl ⟨by rfl, by (intro w hSw; try obtain ⟨u0, u1, u2, u3, u4, u5, u6, u7, u8, u9, u10, u11, u12, u13, u14, u15, u16, u17, u18, u19, u20, u21, u22, u23, u24, u25, u26, u27, u28, u29, u30, u31, u32, u33, u34, u35, u36, u37, u38, u39, u40, u41⟩ := hSw); (go_simp; try rfl)⟩) (h := ?_)
              simp only [Act.put, List.setIfInBounds_toArray, List.set_cons_zero, List.set_cons_succ]
              refine takeT 11 hH (hy := .inl ⟨by rfl, by (intro w hSw; try obtain ⟨u0, u1, u2, u3, u4, u5, u6, u7, u8, u9, u10, u11, u12, u13, u14, u15, u16, u17, u18, u19, u20, u21, u22, u23, u24, u25, u26, u27, u28, u29, u30, u31, u32, u33, u34, u35, u36, u37, u38, u39, u40, u41⟩ := hSw); (go_simp; try rfl)⟩) (h := ?_)
              simp only [Act.put, List.setIfInBounds_toArray, List.set_cons_zero, List.set_cons_succ]
              refine takeT 12 hH (hy := .inl ⟨by rfl, by (intro w hSw; try obtain ⟨u0, u1, u2, u3, u4, u5, u6, u7, u8, u9, u10, u11, u12, u13, u14, u15, u16, u17, u18, u19, u20, u21, u22, u23, u24, u25, u26, u27, u28, u29, u30, u31, u32, u33, u34, u35, u36, u37, u38, u39, u40, u41⟩ := hSw); (go_simp; try rfl)⟩) (h := ?_)
              simp only [Act.put, List.setIfInBounds_toArray, List.set_cons_zero, List.set_cons_succ]
              refine takeT 13 hH (hy := .inl ⟨by rfl, by (intro w hSw; try obtain ⟨u0, u1, u2, u3, u4, u5, u6, u7, u8, u9, u10, u11, u12, u13, u14, u15, u16, u17, u18, u19, u20, u21, u22, u23, u24, u25, u26, u27, u28, u29, u30, u31, u32, u33, u34, u35, u36, u37, u38, u39, u40, u41⟩ := hSw); (go_simp; try rfl)⟩) (h := ?_)
              simp only [Act.put, List.setIfInBounds_toArray, List.set_cons_zero, List.set_cons_succ]
              refine takeT 14 hH (hy := .inl ⟨by rfl, by (intro w hSw; try obtain ⟨u0, u1, u2, u3, u4, u5, u6, u7, u8, u9, u10, u11, u12, u13, u14, u15, u16, u17, u18, u19, u20, u21, u22, u23, u24, u25, u26, u27, u28, u29, u30, u31, u32, u33, u34, u35, u36, u37, u38, u39, u40, u41⟩ := hSw); (go_simp; try rfl)⟩) (h := ?_)
              simp only [Act.put, List.setIfInBounds_toArray, List.set_cons_zero, List.set_cons_succ]
              refine takeT 15 hH (hy := .inl ⟨by rfl, by (intro w hSw; try obtain ⟨u0, u1, u2, u3, u4, u5, u6, u7, u8, u9, u10, u11, u12, u13, u14, u15, u16, u17, u18, u19, u20, u21, u22, u23, u24, u25, u26, u27, u28, u29, u30, u31, u32, u33, u34, u35, u36, u37, u38, u39, u40, u41⟩ := hSw); (go_simp; try rfl)⟩) (h := ?_)
              simp only [Act.put, List.setIfInBounds_toArray, List.set_cons_zero, List.set_cons_succ]
              refine takeT 16 hH (hy := .inl ⟨by rfl, by (intro w hSw; try obtain ⟨u0, u1, u2, u3, u4, u5, u6, u7, u8, u9, u10, u11, u12, u13, u14, u15, u16, u17, u18, u19, u20, u21, u22, u23, u24, u25, u26, u27, u28, u29, u30, u31, u32, u33, u34, u35, u36, u37, u38, u39, u40, u41⟩ := hSw); (go_simp; try rfl)⟩) (h := ?_)
              simp only [Act.put, List.setIfInBounds_toArray, List.set_cons_zero, List.set_cons_succ]
              refine takeT 17 hH (hy := .inl ⟨by rfl, by (intro w hSw; try obtain ⟨u0, u1, u2, u3, u4, u5, u6, u7, u8, u9, u10, u11, u12, u13, u14, u15, u16, u17, u18, u19, u20, u21, u22, u23, u24, u25, u26, u27, u28, u29, u30, u31, u32, u33, u34, u35, u36, u37, u38, u39, u40, u41⟩ := hSw); (go_simp; try rfl)⟩) (h := ?_)
              simp only [Act.put, List.setIfInBounds_toArray, List.set_cons_zero, List.set_cons_succ]
              refine takeT 18 hH (hy := .inl ⟨by rfl, by (intro w hSw; try obtain ⟨u0, u1, u2, u3, u4, u5, u6, u7, u8, u9, u10, u11, u12, u13, u14, u15, u16, u17, u18, u19, u20, u21, u22, u23, u24, u25, u26, u27, u28, u29, u30, u31, u32, u33, u34, u35, u36, u37, u38, u39, u40, u41⟩ := hSw); (go_simp; try rfl)⟩) (h := ?_)
              simp only [Act.put, List.setIfInBounds_toArray, List.set_cons_zero, List.set_cons_succ]
              refine takeT 19 hH (hy := .inl ⟨by rfl, by (intro w hSw; try obtain ⟨u0, u1, u2, u3, u4, u5, u6, u7, u8, u9, u10, u11, u12, u13, u14, u15, u16, u17, u18, u19, u20, u21, u22, u23, u24, u25, u26, u27, u28, u29, u30, u31, u32, u33, u34, u35, u36, u37, u38, u39, u40, u41⟩ := hSw); (go_simp; try rfl)⟩) (h := ?_)
              simp only [Act.put, List.setIfInBounds_toArray, List.set_cons_zero, List.set_cons_succ]
              refine takeT 20 hH (hy := .inl ⟨by rfl, by (intro w hSw; try obtain ⟨u0, u1, u2, u3, u4, u5, u6, u7, u8, u9, u10, u11, u12, u13, u14, u15, u16, u17, u18, u19, u20, u21, u22, u23, u24, u25, u26, u27, u28, u29, u30, u31, u32, u33, u34, u35, u36, u37, u38, u39, u40, u41⟩ := hSw); (go_simp; try rfl)⟩) (h := ?_)
              simp only [Act.put, List.setIfInBounds_toArray, List.set_cons_zero, List.set_cons_succ]
              refine takeT 21 hH (hy := .inl ⟨by rfl, by (intro w hSw; try obtain ⟨u0, u1, u2, u3, u4, u5, u6, u7, u8, u9, u10, u11, u12, u13, u14, u15, u16, u17, u18, u19, u20, u21, u22, u23, u24, u25, u26, u27, u28, u29, u30, u31, u32, u33, u34, u35, u36, u37, u38, u39, u40, u41⟩ := hSw); (go_simp; try rfl)⟩) (h := ?_)
              simp only [Act.put, List.setIfInBounds_toArray, List.set_cons_zero, List.set_cons_succ]
              refine takeT 22 hH (hy := .inl ⟨by rfl, by (intro w hSw; try obtain ⟨u0, u1, u2, u3, u4, u5, u6, u7, u8, u9, u10, u11, u12, u13, u14, u15, u16, u17, u18, u19, u20, u21, u22, u23, u24, u25, u26, u27, u28, u29, u30, u31, u32, u33, u34, u35, u36, u37, u38, u39, u40, u41⟩ := hSw); (go_simp; try rfl)⟩) (h := ?_)
              simp only [Act.put, List.setIfInBounds_toArray, List.set_cons_zero, List.set_cons_succ]
              refine takeT 23 hH (hy := .inl ⟨by rfl, by (intro w hSw; try obtain ⟨u0, u1, u2, u3, u4, u5, u6, u7, u8, u9, u10, u11, u12, u13, u14, u15, u16, u17, u18, u19, u20, u21, u22, u23, u24, u25, u26, u27, u28, u29, u30, u31, u32, u33, u34, u35, u36, u37, u38, u39, u40, u41⟩ := hSw); (go_simp; try rfl)⟩) (h := ?_)
              simp only [Act.put, List.setIfInBounds_toArray, List.set_cons_zero, List.set_cons_succ]
              refine takeT 24 hH (hy := .inl ⟨by rfl, by (intro w hSw; try obtain ⟨u0, u1, u2, u3, u4, u5, u6, u7, u8, u9, u10, u11, u12, u13, u14, u15, u16, u17, u18, u19, u20, u21, u22, u23, u24, u25, u26, u27, u28, u29, u30, u31, u32, u33, u34, u35, u36, u37, u38, u39, u40, u41⟩ := hSw); (go_simp; try rfl)⟩) (h := ?_)
              simp only [Act.put, List.setIfInBounds_toArray, List.set_cons_zero, List.set_cons_succ]
              refine takeT 25 hH (hy := .inl ⟨by rfl, by (intro w hSw; try obtain ⟨u0, u1, u2, u3, u4, u5, u6, u7, u8, u9, u10, u11, u12, u13, u14, u15, u16, u17, u18, u19, u20, u21, u22, u23, u24, u25, u26, u27, u28, u29, u30, u31, u32, u33, u34, u35, u36, u37, u38, u39, u40, u41⟩ := hSw); (go_simp; try rfl)⟩) (h := ?_)
              simp only [Act.put, List.setIfInBounds_toArray, List.set_cons_zero, List.set_cons_succ]
              refine takeT 26 hH (hy := .inl ⟨by rfl, by (intro w hSw; try obtain ⟨u0, u1, u2, u3, u4, u5, u6, u7, u8, u9, u10, u11, u12, u13, u14, u15, u16, u17, u18, u19, u20, u21, u22, u23, u24, u25, u26, u27, u28, u29, u30, u31, u32, u33, u34, u35, u36, u37, u38, u39, u40, u41⟩ := hSw); (go_simp; try rfl)⟩) (h := ?_)
              simp only [Act.put, List.setIfInBounds_toArray, List.set_cons_zero, List.set_cons_succ]
              refine takeT 27 hH (hy := .inl ⟨by rfl, by (intro w hSw; try obtain ⟨u0, u1, u2, u3, u4, u5, u6, u7, u8, u9, u10, u11, u12, u13, u14, u15, u16, u17, u18, u19, u20, u21, u22, u23, u24, u25, u26, u27, u28, u29, u30, u31, u32, u33, u34, u35, u36, u37, u38, u39, u40, u41⟩ := hSw); (go_simp; try rfl)⟩) (h := ?_)
              simp only [Act.put, List.setIfInBounds_toArray, List.set_cons_zero, List.set_cons_succ]
              refine takeT 28 hH (hy := .inl ⟨by rfl, by (intro w hSw; try obtain ⟨u0, u1, u2, u3, u4, u5, u6, u7, u8, u9, u10, u11, u12, u13, u14, u15, u16, u17, u18, u19, u20, u21, u22, u23, u24, u25, u26, u27, u28, u29, u30, u31, u32, u33, u34, u35, u36, u37, u38, u39, u40, u41⟩ := hSw); (go_simp; try rfl)⟩) (h := ?_)
              simp only [Act.put, List.setIfInBounds_toArray, List.set_cons_zero, List.set_cons_succ]
              refine takeT 29 hH (hy := .inl ⟨by rfl, by (intro w hSw; try obtain ⟨u0, u1, u2, u3, u4, u5, u6, u7, u8, u9, u10, u11, u12, u13, u14, u15, u16, u17, u18, u19, u20, u21, u22, u23, u24, u25, u26, u27, u28, u29, u30, u31, u32, u33, u34, u35, u36, u37, u38, u39, u40, u41⟩ := hSw); (go_simp; try rfl)⟩) (h := ?_)
              simp only [Act.put, List.setIfInBounds_toArray, List.set_cons_zero, List.set_cons_succ]
              refine takeT 30 hH (hy := .inl ⟨by rfl, by (intro w hSw; try obtain ⟨u0, u1, u2, u3, u4, u5, u6, u7, u8, u9, u10, u11, u12, u13, u14, u15, u16, u17, u18, u19, u20, u21, u22, u23, u24, u25, u26, u27, u28, u29, u30, u31, u32, u33, u34, u35, u36, u37, u38, u39, u40, u41⟩ := hSw); (go_simp; try rfl)⟩) (h := ?_)
              simp only [Act.put, List.setIfInBounds_toArray, List.set_cons_zero, List.set_cons_succ]
              refine takeT 31 hH (hy := .inl ⟨by rfl, by (intro w hSw; try obtain ⟨u0, u1, u2, u3, u4, u5, u6, u7, u8, u9, u10, u11, u12, u13, u14, u15, u16, u17, u18, u19, u20, u21, u22, u23, u24, u25, u26, u27, u28, u29, u30, u31, u32, u33, u34, u35, u36, u37, u38, u39, u40, u41⟩ := hSw); (go_simp; try rfl)⟩) (h := ?_)
              simp only [Act.put, List.setIfInBounds_toArray, List.set_cons_zero, List.set_cons_succ]
              refine takeT 32 hH (hy := .inl ⟨by rfl, by (intro w hSw; try obtain ⟨u0, u1, u2, u3, u4, u5, u6, u7, u8, u9, u10, u11, u12, u13, u14, u15, u16, u17, u18, u19, u20, u21, u22, u23, u24, u25, u26, u27, u28, u29, u30, u31, u32, u33, u34, u35, u36, u37, u38, u39, u40, u41⟩ := hSw); (go_simp; try rfl)⟩) (h := ?_)
              simp only [Act.put, List.setIfInBounds_toArray, List.set_cons_zero, List.set_cons_succ]
              refine takeT 33 hH (hy := .inl ⟨by rfl, by (intro w hSw; try obtain ⟨u0, u1, u2, u3, u4, u5, u6, u7, u8, u9, u10, u11, u12, u13, u14, u15, u16, u17, u18, u19, u20, u21, u22, u23, u24, u25, u26, u27, u28, u29, u30, u31, u32, u33, u34, u35, u36, u37, u38, u39, u40, u41⟩ := hSw); (go_simp; try rfl)⟩) (h := ?_)
              simp only [Act.put, List.setIfInBounds_toArray, List.set_cons_zero, List.set_cons_succ]
              refine takeT 34 hH (hy := .inl ⟨by rfl, by (intro w hSw; try obtain ⟨u0, u1, u2, u3, u4, u5, u6, u7, u8, u9, u10, u11, u12, u13, u14, u15, u16, u17, u18, u19, u20, u21, u22, u23, u24, u25, u26, u27, u28, u29, u30, u31, u32, u33, u34, u35, u36, u37, u38, u39, u40, u41⟩ := hSw); (go_simp; try rfl)⟩) (h := ?_)
              simp only [Act.put, List.setIfInBounds_toArray, List.set_cons_zero, List.set_cons_succ]
              refine takeT 35 hH (hy := .inl ⟨by rfl, by (intro w hSw; try obtain ⟨u0, u1, u2, u3, u4, u5, u6, u7, u8, u9, u10, u11, u12, u13, u14, u15, u16, u17, u18, u19, u20, u21, u22, u23, u24, u25, u26, u27, u28, u29, u30, u31, u32, u33, u34, u35, u36, u37, u38, u39, u40, u41⟩ := hSw); (go_simp; try rfl)⟩) (h := ?_)
              simp only [Act.put, List.setIfInBounds_toArray, List.set_cons_zero, List.set_cons_succ]
              refine takeT 36 hH (hy := .inl ⟨by rfl, by (intro w hSw; try obtain ⟨u0, u1, u2, u3, u4, u5, u6, u7, u8, u9, u10, u11, u12, u13, u14, u15, u16, u17, u18, u19, u20, u21, u22, u23, u24, u25, u26, u27, u28, u29, u30, u31, u32, u33, u34, u35, u36, u37, u38, u39, u40, u41⟩ := hSw); (go_simp; try rfl)⟩) (h := ?_)
              simp only [Act.put, List.setIfInBounds_toArray, List.set_cons_zero, List.set_cons_succ]
              refine takeT 37 hH (hy := .inl ⟨by rfl, by (intro w hSw; try obtain ⟨u0, u1, u2, u3, u4, u5, u6, u7, u8, u9, u10, u11, u12, u13, u14, u15, u16, u17, u18, u19, u20, u21, u22, u23, u24, u25, u26, u27, u28, u29, u30, u31, u32, u33, u34, u35, u36, u37, u38, u39, u40, u41⟩ := hSw); (go_simp; try rfl)⟩) (h := ?_)
              simp only [Act.put, List.setIfInBounds_toArray, List.set_cons_zero, List.set_cons_succ]
              refine takeT 38 hH (hy := .inl ⟨by rfl, by (intro w hSw; try obtain ⟨u0, u1, u2, u3, u4, u5, u6, u7, u8, u9, u10, u11, u12, u13, u14, u15, u16, u17, u18, u19, u20, u21, u22, u23, u24, u25, u26, u27, u28, u29, u30, u31, u32, u33, u34, u35, u36, u37, u38, u39, u40, u41⟩ := hSw); (go_simp; try rfl)⟩) (h := ?_)
              simp only [Act.put, List.setIfInBounds_toArray, List.set_cons_zero, List.set_cons_succ]
              refine takeT 39 hH (hy := .inl ⟨by rfl, by (intro w hSw; try obtain ⟨u0, u1, u2, u3, u4, u5, u6, u7, u8, u9, u10, u11, u12, u13, u14, u15, u16, u17, u18, u19, u20, u21, u22, u23, u24, u25, u26, u27, u28, u29, u30, u31, u32, u33, u34, u35, u36, u37, u38, u39, u40, u41⟩ := hSw); (go_simp; try rfl)⟩) (h := ?_)
              simp only [Act.put, List.setIfInBounds_toArray, List.set_cons_zero, List.set_cons_succ]
              refine takeT 40 hH (hy := .inl ⟨by rfl, by (intro w hSw; try obtain ⟨u0, u1, u2, u3, u4, u5, u6, u7, u8, u9, u10, u11, u12, u13, u14, u15, u16, u17, u18, u19, u20, u21, u22, u23, u24, u25, u26, u27, u28, u29, u30, u31, u32, u33, u34, u35, u36, u37, u38, u39, u40, u41⟩ := hSw); (go_simp; try rfl)⟩) (h := ?_)
              simp only [Act.put, List.setIfInBounds_toArray, List.set_cons_zero, List.set_cons_succ]
              refine takeT 41 hH (hy := .inl ⟨by rfl, by (intro w hSw; try obtain ⟨u0, u1, u2, u3, u4, u5, u6, u7, u8, u9, u10, u11, u12, u13, u14, u15, u16, u17, u18, u19, u20, u21, u22, u23, u24, u25, u26, u27, u28, u29, u30, u31, u32, u33, u34, u35, u36, u37, u38, u39, u40, u41⟩ := hSw); (go_simp; try rfl)⟩) (h := ?_)
              simp only [Act.put, List.setIfInBounds_toArray, List.set_cons_zero, List.set_cons_succ]
              refine wpAnyH_done (by kernel_rfl) ?_ _
              as_aux_lemma =>
                go_wp2_with fail
                go_meet
                exact ⟨rfl, T1.below⟩
          case rest =>
            obtain ⟨rfl, hB⟩ := hcut
            replace hB := Lib.hid hB
            go_wp2
            go_ret
            exact ⟨rfl, hB.out⟩
      | some z =>
        replace S : Sep w (boxR x14 (.cells #[.int .i64 z.kind, .int .i64 z.n, .string z.s] 33) :: valsR (.slice la L.length lc) L :: boxR x10 (.cells #[.int .i64 c.kind, .int .i64 c.n, .string c.s] 33) :: valsR (.slice oa out.length oc) out :: heapR h H :: boxR b (.cells #[sB, sH] 25) :: []) wr := S
        simp only [Option.isSome_some]
        have d0 := cellAt (S.box (b := x10) 2 rfl) 0 (v := .int .i64 c.kind) rfl
        have d1 := cellAt (S.box (b := x10) 2 rfl) 1 (v := .int .i64 c.n) rfl
        have d2 := cellAt (S.box (b := x10) 2 rfl) 2 (v := .string c.s) rfl
        have M := Lib.hid (kf_find S 4 rfl MM.out.1.fit.G (by omega) c s hsl (some z) HFN.out)
        clear S
        go_wp2_with fail
        refine M.out.mono ?_
        rintro e w6 ⟨rfl, S⟩
        clear M d0 d1 d2
        try simp only [valE, excE, Option.isSome_some, Option.isSome_none]
        replace S : Sep w (boxR x14 (.cells #[.int .i64 z.kind, .int .i64 z.n, .string z.s] 33) :: valsR (.slice la L.length lc) L :: boxR x10 (.cells #[.int .i64 c.kind, .int .i64 c.n, .string c.s] 33) :: valsR (.slice oa out.length oc) out :: heapR h H :: boxR b (.cells #[sB, sH] 25) :: []) _ := S
        obtain ⟨x18, hx18⟩ : ∃ gx_, (w6.heap.size) = gx_ := ⟨_, rfl⟩
        replace S := (S.alloc (.cells #[.int .i64 z.kind, .int .i64 z.n, .string z.s] 33))
        simp only [World.size_alloc, hx18] at S
        replace S : Sep w (boxR x18 (.cells #[.int .i64 z.kind, .int .i64 z.n, .string z.s] 33) :: boxR x14 (.cells #[.int .i64 z.kind, .int .i64 z.n, .string z.s] 33) :: valsR (.slice la L.length lc) L :: boxR x10 (.cells #[.int .i64 c.kind, .int .i64 c.n, .string c.s] 33) :: valsR (.slice oa out.length oc) out :: heapR h H :: boxR b (.cells #[sB, sH] 25) :: []) _ := S
        have d0 := cellAt (S.box (b := x10) 3 rfl) 0 (v := .int .i64 c.kind) rfl
        have d1 := cellAt (S.box (b := x10) 3 rfl) 1 (v := .int .i64 c.n) rfl
        have d2 := cellAt (S.box (b := x10) 3 rfl) 2 (v := .string c.s) rfl
        have M := Lib.hid (kf_inst S 5 rfl MM.out.1.fit (by omega) c MM.out.2.1)
        clear S
        go_wp2_with fail
        try simp only [hx18]
        refine M.out.mono ?_
        rintro e w7 ⟨rfl, S⟩
        clear M d0 d1 d2 hx18
        replace S : Sep w (boxR x18 (.cells #[.int .i64 z.kind, .int .i64 z.n, .string z.s] 33) :: boxR x14 (.cells #[.int .i64 z.kind, .int .i64 z.n, .string z.s] 33) :: valsR (.slice la L.length lc) L :: boxR x10 (.cells #[.int .i64 c.kind, .int .i64 c.n, .string c.s] 33) :: valsR (.slice oa out.length oc) out :: heapR h (inst1 H c) :: boxR b (.cells #[sB, sH] 25) :: []) _ := S
        rw [He1.out]
        obtain ⟨x20, hx20⟩ : ∃ gx_, (w7.heap.size) = gx_ := ⟨_, rfl⟩
        replace S := (S.alloc (.cells #[.int .i64 r.kind, .int .i64 r.n, .string r.s] 33))
        simp only [World.size_alloc, hx20] at S
        replace S : Sep w (boxR x20 (.cells #[.int .i64 r.kind, .int .i64 r.n, .string r.s] 33) :: boxR x18 (.cells #[.int .i64 z.kind, .int .i64 z.n, .string z.s] 33) :: boxR x14 (.cells #[.int .i64 z.kind, .int .i64 z.n, .string z.s] 33) :: valsR (.slice la L.length lc) L :: boxR x10 (.cells #[.int .i64 c.kind, .int .i64 c.n, .string c.s] 33) :: valsR (.slice oa out.length oc) out :: heapR h (inst1 H c) :: boxR b (.cells #[sB, sH] 25) :: []) _ := S
        have d0 := cellAt (S.box (b := x20) 0 rfl) 0 (v := .int .i64 r.kind) rfl
        have d1 := cellAt (S.box (b := x20) 0 rfl) 1 (v := .int .i64 r.n) rfl
        have d2 := cellAt (S.box (b := x20) 0 rfl) 2 (v := .string r.s) rfl
        have M := Lib.hid (kf_get S 6 rfl HPL.out.2.1 (by omega) r s hsl (some z) HPL.out.1.1.2.1)
        clear S
        go_wp2_with fail
        try simp only [hx20]
        refine M.out.mono ?_
        rintro e w8 ⟨rfl, S⟩
        clear M d0 d1 d2 hx20
        try simp only [valE, excE, Option.isSome_some, Option.isSome_none]
        replace S : Sep w (boxR x20 (.cells #[.int .i64 r.kind, .int .i64 r.n, .string r.s] 33) :: boxR x18 (.cells #[.int .i64 z.kind, .int .i64 z.n, .string z.s] 33) :: boxR x14 (.cells #[.int .i64 z.kind, .int .i64 z.n, .string z.s] 33) :: valsR (.slice la L.length lc) L :: boxR x10 (.cells #[.int .i64 c.kind, .int .i64 c.n, .string c.s] 33) :: valsR (.slice oa out.length oc) out :: heapR h (inst1 H c) :: boxR b (.cells #[sB, sH] 25) :: []) _ := S
        obtain ⟨x22, hx22⟩ : ∃ gx_, (w8.heap.size) = gx_ := ⟨_, rfl⟩
        replace S := ((S.alloc (.cells #[.int .i64 z.kind, .int .i64 z.n, .string z.s] 33)).alloc (.cells #[.string ⟨#[]⟩, .int .i64 0, .int .i64 0, .string ⟨#[]⟩, .bool false] 45))
        simp only [World.size_alloc, hx22] at S
        replace S : Sep w (boxR (x22 + 1) (.cells #[.string ⟨#[]⟩, .int .i64 0, .int .i64 0, .string ⟨#[]⟩, .bool false] 45) :: boxR x22 (.cells #[.int .i64 z.kind, .int .i64 z.n, .string z.s] 33) :: boxR x20 (.cells #[.int .i64 r.kind, .int .i64 r.n, .string r.s] 33) :: boxR x18 (.cells #[.int .i64 z.kind, .int .i64 z.n, .string z.s] 33) :: boxR x14 (.cells #[.int .i64 z.kind, .int .i64 z.n, .string z.s] 33) :: valsR (.slice la L.length lc) L :: boxR x10 (.cells #[.int .i64 c.kind, .int .i64 c.n, .string c.s] 33) :: valsR (.slice oa out.length oc) out :: heapR h (inst1 H c) :: boxR b (.cells #[sB, sH] 25) :: []) _ := S
        have d0 := cellAt (S.box (b := x18) 3 rfl) 0 (v := .int .i64 z.kind) rfl
        have d1 := cellAt (S.box (b := x18) 3 rfl) 1 (v := .int .i64 z.n) rfl
        have d2 := cellAt (S.box (b := x18) 3 rfl) 2 (v := .string z.s) rfl
        have d3 := cellAt (S.box (b := x14) 4 rfl) 0 (v := .int .i64 z.kind) rfl
        have d4 := cellAt (S.box (b := x14) 4 rfl) 1 (v := .int .i64 z.n) rfl
        have d5 := cellAt (S.box (b := x14) 4 rfl) 2 (v := .string z.s) rfl
        have d6 := cellAt (S.box (b := x22) 1 rfl) 0 (v := .int .i64 z.kind) rfl
        have d7 := cellAt (S.box (b := x22) 1 rfl) 1 (v := .int .i64 z.n) rfl
        have d8 := cellAt (S.box (b := x22) 1 rfl) 2 (v := .string z.s) rfl
        have d9 := cellAt (S.box (b := x22 + 1) 0 rfl) 0 (v := .string ⟨#[]⟩) rfl
        have d10 := cellAt (S.box (b := x22 + 1) 0 rfl) 1 (v := .int .i64 0) rfl
        have d11 := cellAt (S.box (b := x22 + 1) 0 rfl) 2 (v := .int .i64 0) rfl
        have d12 := cellAt (S.box (b := x22 + 1) 0 rfl) 3 (v := .string ⟨#[]⟩) rfl
        have d13 := cellAt (S.box (b := x22 + 1) 0 rfl) 4 (v := .bool false) rfl
        have NQ : ∀ W, (binOp .neq 33 (.agg #[.int .i64 z.kind, .int .i64 z.n, .string z.s]) (.agg #[.int .i64 z.kind, .int .i64 z.n, .string z.s])).run Try.prog W = .ok (.bool false) W := fun W => neq_vals W z z false (by simp)
        have EZ : ∀ W, (binOp .eql 45 (excZ) excZ).run Try.prog W = .ok (.bool true) W := fun W => by go_simp
        obtain ⟨baseA, hbaseA⟩ : ∃ base, base = boxR (x22 + 1) (.cells #[.string ⟨#[]⟩, .int .i64 0, .int .i64 0, .string ⟨#[]⟩, .bool false] 45) :: boxR x22 (.cells #[.int .i64 z.kind, .int .i64 z.n, .string z.s] 33) :: boxR x20 (.cells #[.int .i64 r.kind, .int .i64 r.n, .string r.s] 33) :: boxR x18 (.cells #[.int .i64 z.kind, .int .i64 z.n, .string z.s] 33) :: boxR x14 (.cells #[.int .i64 z.kind, .int .i64 z.n, .string z.s] 33) :: valsR (.slice la L.length lc) L :: boxR x10 (.cells #[.int .i64 c.kind, .int .i64 c.n, .string c.s] 33) :: valsR (.slice oa out.length oc) out :: heapR h (inst1 H c) :: boxR b (.cells #[sB, sH] 25) :: [] := ⟨_, rfl⟩
        have HbaseA := Lib.hid hbaseA
        have KbaseA : Hid (∀ W (Q : List Res), Sep w (Q ++ baseA) W → W.cell? ⟨x20, 0, none⟩ = some (.int .i64 r.kind) ∧ W.cell? ⟨x20, 1, none⟩ = some (.int .i64 r.n) ∧ W.cell? ⟨x20, 2, none⟩ = some (.string r.s)) := Lib.hid fun W Q T => by
          rw [hbaseA] at T
          have i0 := T.box (b := x20) (o := .cells #[.int .i64 r.kind, .int .i64 r.n, .string r.s] 33) (Q.length + 2) (by rw [List.getElem?_append_right (by omega), Nat.add_sub_cancel_left]; rfl)
          exact ⟨cellAt i0 0 rfl, cellAt i0 1 rfl, cellAt i0 2 rfl⟩
        obtain ⟨baseB, hbaseB⟩ : ∃ base, base = boxR (x22 + 1) (.cells #[.string ⟨#[]⟩, .int .i64 0, .int .i64 0, .string ⟨#[]⟩, .bool false] 45) :: boxR x22 (.cells #[.int .i64 z.kind, .int .i64 z.n, .string z.s] 33) :: boxR x20 (.cells #[.int .i64 r.kind, .int .i64 r.n, .string r.s] 33) :: boxR x18 (.cells #[.int .i64 z.kind, .int .i64 z.n, .string z.s] 33) :: boxR x14 (.cells #[.int .i64 z.kind, .int .i64 z.n, .string z.s] 33) :: valsR (.slice la L.length lc) L :: boxR x10 (.cells #[.int .i64 c.kind, .int .i64 c.n, .string c.s] 33) :: valsR (.slice oa out.length oc) out :: heapR h ((inst1 H c).put r (keyS s hsl) y7) :: boxR b (.cells #[sB, sH] 25) :: [] := ⟨_, rfl⟩
        have HbaseB := Lib.hid hbaseB
        have KbaseB : Hid (∀ W (Q : List Res), Sep w (Q ++ baseB) W → W.cell? ⟨x20, 0, none⟩ = some (.int .i64 r.kind) ∧ W.cell? ⟨x20, 1, none⟩ = some (.int .i64 r.n) ∧ W.cell? ⟨x20, 2, none⟩ = some (.string r.s)) := Lib.hid fun W Q T => by
          rw [hbaseB] at T
          have i0 := T.box (b := x20) (o := .cells #[.int .i64 r.kind, .int .i64 r.n, .string r.s] 33) (Q.length + 2) (by rw [List.getElem?_append_right (by omega), Nat.add_sub_cancel_left]; rfl)
          exact ⟨cellAt i0 0 rfl, cellAt i0 1 rfl, cellAt i0 2 rfl⟩
        have KN : Hid (∀ W (Q : List Res), Sep w (Q ++ baseA) W → Calls Try.prog 29 #[.int .i64 77] W fun e W' => e = .returned (.agg #[.int .i64 2, .int .i64 77, .string ⟨#[]⟩]) ∧ Sep w (Q ++ baseA) W') := Lib.hid fun W Q T => by
          exact (num_ok W _).mono fun e W' ⟨e1, e2⟩ => ⟨e1, T.later e2⟩
        have KT : Hid (∀ W (Q : List Res), Sep w (Q ++ baseA) W → Calls Try.prog 20 #[.pointer (some ⟨h, 0, none⟩), .agg #[.int .i64 r.kind, .int .i64 r.n, .string r.s], .string s, .agg #[.int .i64 2, .int .i64 77, .string ⟨#[]⟩]] W fun e W' => e = .returned (excZ) ∧ Sep w (Q ++ baseB) W') := Lib.hid fun W Q T => by
          rw [HbaseA.out] at T
          rw [HbaseB.out]
          have hh := kf_set T (Q.length + 8) (by rw [List.getElem?_append_right (by omega), Nat.add_sub_cancel_left]; rfl) r y7 s hsl HPL.out.1.1.1 HPL.out.1.1.2.2
          try rw [List.set_append_right _ _ (by omega), Nat.add_sub_cancel_left] at hh
          rw [Hy7.out] at hh
          rw [Hy7.out]
          exact hh
        replace S : Sep w baseA ((w8.alloc (.cells #[.int .i64 z.kind, .int .i64 z.n, .string z.s] 33)).alloc (.cells #[.string ⟨#[]⟩, .int .i64 0, .int .i64 0, .string ⟨#[]⟩, .bool false] 45)) := by rw [hbaseA]; exact S
        replace S := Lib.hid S
        clear hbaseA hbaseB
        go_upto_region 22 with fail
        try simp only [hx22]
        obtain ⟨Wd22, hW⟩ : ∃ gx_, (((w8.alloc (.cells #[.int .i64 z.kind, .int .i64 z.n, .string z.s] 33)).alloc (.cells #[.string ⟨#[]⟩, .int .i64 0, .int .i64 0, .string ⟨#[]⟩, .bool false] 45))) = gx_ := ⟨_, rfl⟩
        rw [hW] at S ⊢
        clear hW hx22
        clear d0 d1 d2 d3 d4 d5 d6 d7 d8 d9 d10 d11 d12 d13 NQ EZ
        go_cut [24] from 33 (fun s24 wx => ∃ qx, s24 = .pointer (some ⟨qx, 0, none⟩) ∧ Sep w (boxR qx (.cells #[.string ⟨#[]⟩, .int .i64 0, .int .i64 0, .string ⟨#[]⟩, .bool false] 45) :: baseB) wx)
        case first =>
          have T0 : Sep w ([] ++ baseA) _ := S.out.drew
          clear S
          as_aux_lemma =>
            refine wp_region_held_drew (S := fun W => W.cell? ⟨x20, 0, none⟩ = some (.int .i64 r.kind) ∧ W.cell? ⟨x20, 1, none⟩ = some (.int .i64 r.n) ∧ W.cell? ⟨x20, 2, none⟩ = some (.string r.s)) (by kernel_rfl) (KbaseA.out _ [] T0) (fun hH => ?_)
            refine takeT 0 hH (hy := .inl ⟨by rfl, by (intro w hSw; try obtain ⟨u0, u1, u2⟩ := hSw); (go_simp; try rfl)⟩) (h := ?_)
            simp only [Act.put, List.setIfInBounds_toArray, List.set_cons_zero, List.set_cons_succ]
            refine takeT 1 hH (hy := .inl ⟨by rfl, by (intro w hSw; try obtain ⟨u0, u1, u2⟩ := hSw); (go_simp; try rfl)⟩) (h := ?_)
            simp only [Act.put, List.setIfInBounds_toArray, List.set_cons_zero, List.set_cons_succ]
            refine takeT 2 hH (hy := .inl ⟨by rfl, by (intro w hSw; try obtain ⟨u0, u1, u2⟩ := hSw); (go_simp; try rfl)⟩) (h := ?_)
            simp only [Act.put, List.setIfInBounds_toArray, List.set_cons_zero, List.set_cons_succ]
            refine readyT [3, 5] ?_
            refine consT (fun K hK => ?_) (consT (fun K hK => ?_) AllReadyH.nil)
            · go_simp
              go_wp2_with (go_at_call 29; refine (KN.out _ [] T0).mono ?_; rintro e w1 ⟨rfl, T1⟩)
              clear hH
              refine hK.out _ _ (KbaseA.out _ [] T1) (fun hH => ?_)
              clear hK K
              refine readyT [4, 5] ?_
              refine consT (fun K hK => ?_) (consT (fun K hK => ?_) AllReadyH.nil)
              · go_simp
                go_wp2_with (go_at_call 20; refine (KT.out _ [] T1).mono ?_; rintro e w2 ⟨rfl, T2⟩)
                clear hH
                refine hK.out _ _ (KbaseB.out _ [] T2) (fun hH => ?_)
                clear hK K
                refine readyT [5] ?_
                refine consT (fun K hK => ?_) AllReadyH.nil
                go_simp
                have T3 : Sep w ([boxR _ (.cells #[.string ⟨#[]⟩, .int .i64 0, .int .i64 0, .string ⟨#[]⟩, .bool false] 45)] ++ baseB) _ := Sep.alloc T2 (.cells #[.string ⟨#[]⟩, .int .i64 0, .int .i64 0, .string ⟨#[]⟩, .bool false] 45)
                try simp only [size_drew, World.size_alloc] at T3
                clear hH
                refine hK.out _ _ (KbaseB.out _ [_] T3) (fun hH => ?_)
                clear hK K
                refine readyT [6] ?_
                refine consT (fun K hK => ?_) AllReadyH.nil
                have hz := T3.box 0 rfl
                have z0 := cellAt hz 0 (v := .string ⟨#[]⟩) rfl
                have z1 := cellAt hz 1 (v := .int .i64 0) rfl
                have z2 := cellAt hz 2 (v := .int .i64 0) rfl
                have z3 := cellAt hz 3 (v := .string ⟨#[]⟩) rfl
                have z4 := cellAt hz 4 (v := .bool false) rfl
                have z5 := frozenAt hz 0
                have z6 := frozenAt hz 1
                have z7 := frozenAt hz 2
                have z8 := frozenAt hz 3
                have z9 := frozenAt hz 4
                go_simp
                clear hz z0 z1 z2 z3 z4 z5 z6 z7 z8 z9
                clear hH
                first | (have T4 : Sep w ([boxR _ (.cells #[.string ⟨#[]⟩, .int .i64 0, .int .i64 0, .string ⟨#[]⟩, .bool false] 45)] ++ baseB) _ := (Sep.alloc T2 (.cells #[.string ⟨#[]⟩, .int .i64 0, .int .i64 0, .string ⟨#[]⟩, .bool false] 45)); (try simp only [size_drew, World.size_alloc] at T4); refine hK.out _ _ (KbaseB.out _ [_] T4) (fun hH => ?_)) | (have T4 : Sep w ([boxR _ (.cells #[.string ⟨#[]⟩, .int .i64 0, .int .i64 0, .string ⟨#[]⟩, .bool false] 45)] ++ baseB) _ := (Sep.setBox (cs := #[.string ⟨#[]⟩, .int .i64 0, .int .i64 0, .string ⟨#[]⟩, .bool false]) (t := 45) (Sep.setBox (cs := #[.string ⟨#[]⟩, .int .i64 0, .int .i64 0, .string ⟨#[]⟩, .bool false]) (t := 45) (Sep.setBox (cs := #[.string ⟨#[]⟩, .int .i64 0, .int .i64 0, .string ⟨#[]⟩, .bool false]) (t := 45) (Sep.setBox (cs := #[.string ⟨#[]⟩, .int .i64 0, .int .i64 0, .string ⟨#[]⟩, .bool false]) (t := 45) (Sep.setBox (cs := #[.string ⟨#[]⟩, .int .i64 0, .int .i64 0, .string ⟨#[]⟩, .bool false]) (t := 45) T3 0 rfl 0 (.string ⟨#[]⟩)) 0 rfl 1 (.int .i64 0)) 0 rfl 2 (.int .i64 0)) 0 rfl 3 (.string ⟨#[]⟩)) 0 rfl 4 (.bool false)); (try simp only [size_drew, World.size_alloc] at T4); refine hK.out _ _ (KbaseB.out _ [_] T4) (fun hH => ?_))
                clear hK K
                refine wpAnyH_done (by kernel_rfl) ?_ _
                as_aux_lemma =>
                  go_wp2_with fail
                  go_meet
                  exact ⟨_, rfl, T4⟩
              · go_simp
                have T5 : Sep w ([boxR _ (.cells #[.string ⟨#[]⟩, .int .i64 0, .int .i64 0, .string ⟨#[]⟩, .bool false] 45)] ++ baseA) _ := Sep.alloc T1 (.cells #[.string ⟨#[]⟩, .int .i64 0, .int .i64 0, .string ⟨#[]⟩, .bool false] 45)
                try simp only [size_drew, World.size_alloc] at T5
                clear hH
                refine hK.out _ _ (KbaseA.out _ [_] T5) (fun hH => ?_)
                clear hK K
                refine readyT [4] ?_
                refine consT (fun K hK => ?_) AllReadyH.nil
                go_simp
                go_wp2_with (go_at_call 20; refine (KT.out _ [_] T5).mono ?_; rintro e w6 ⟨rfl, T6⟩)
                clear hH
                refine hK.out _ _ (KbaseB.out _ [_] T6) (fun hH => ?_)
                clear hK K
                refine readyT [6] ?_
                refine consT (fun K hK => ?_) AllReadyH.nil
                have hz := T6.box 0 rfl
                have z0 := cellAt hz 0 (v := .string ⟨#[]⟩) rfl
                have z1 := cellAt hz 1 (v := .int .i64 0) rfl
                have z2 := cellAt hz 2 (v := .int .i64 0) rfl
                have z3 := cellAt hz 3 (v := .string ⟨#[]⟩) rfl
                have z4 := cellAt hz 4 (v := .bool false) rfl
                have z5 := frozenAt hz 0
                have z6 := frozenAt hz 1
                have z7 := frozenAt hz 2
                have z8 := frozenAt hz 3
                have z9 := frozenAt hz 4
                go_simp
                clear hz z0 z1 z2 z3 z4 z5 z6 z7 z8 z9
                clear hH
                have T7 : Sep w ([boxR _ (.cells #[.string ⟨#[]⟩, .int .i64 0, .int .i64 0, .string ⟨#[]⟩, .bool false] 45)] ++ baseB) _ := (Sep.setBox (cs := #[.string ⟨#[]⟩, .int .i64 0, .int .i64 0, .string ⟨#[]⟩, .bool false]) (t := 45) (Sep.setBox (cs := #[.string ⟨#[]⟩, .int .i64 0, .int .i64 0, .string ⟨#[]⟩, .bool false]) (t := 45) (Sep.setBox (cs := #[.string ⟨#[]⟩, .int .i64 0, .int .i64 0, .string ⟨#[]⟩, .bool false]) (t := 45) (Sep.setBox (cs := #[.string ⟨#[]⟩, .int .i64 0, .int .i64 0, .string ⟨#[]⟩, .bool false]) (t := 45) (Sep.setBox (cs := #[.string ⟨#[]⟩, .int .i64 0, .int .i64 0, .string ⟨#[]⟩, .bool false]) (t := 45) T6 0 rfl 0 (.string ⟨#[]⟩)) 0 rfl 1 (.int .i64 0)) 0 rfl 2 (.int .i64 0)) 0 rfl 3 (.string ⟨#[]⟩)) 0 rfl 4 (.bool false))
                try simp only [size_drew, World.size_alloc] at T7
                refine hK.out _ _ (KbaseB.out _ [_] T7) (fun hH => ?_)
                clear hK K
                refine wpAnyH_done (by kernel_rfl) ?_ _
                as_aux_lemma =>
                  go_wp2_with fail
                  go_meet
                  exact ⟨_, rfl, T7⟩
            · go_simp
              have T8 : Sep w ([boxR _ (.cells #[.string ⟨#[]⟩, .int .i64 0, .int .i64 0, .string ⟨#[]⟩, .bool false] 45)] ++ baseA) _ := Sep.alloc T0 (.cells #[.string ⟨#[]⟩, .int .i64 0, .int .i64 0, .string ⟨#[]⟩, .bool false] 45)
              try simp only [size_drew, World.size_alloc] at T8
              clear hH
              refine hK.out _ _ (KbaseA.out _ [_] T8) (fun hH => ?_)
              clear hK K
              refine readyT [3] ?_
              refine consT (fun K hK => ?_) AllReadyH.nil
              go_simp
              go_wp2_with (go_at_call 29; refine (KN.out _ [_] T8).mono ?_; rintro e w9 ⟨rfl, T9⟩)
              clear hH
              refine hK.out _ _ (KbaseA.out _ [_] T9) (fun hH => ?_)
              clear hK K
              refine readyT [4] ?_
              refine consT (fun K hK => ?_) AllReadyH.nil
              go_simp
              go_wp2_with (go_at_call 20; refine (KT.out _ [_] T9).mono ?_; rintro e w10 ⟨rfl, T10⟩)
              clear hH
              refine hK.out _ _ (KbaseB.out _ [_] T10) (fun hH => ?_)
              clear hK K
              refine readyT [6] ?_
              refine consT (fun K hK => ?_) AllReadyH.nil
              have hz := T10.box 0 rfl
              have z0 := cellAt hz 0 (v := .string ⟨#[]⟩) rfl
              have z1 := cellAt hz 1 (v := .int .i64 0) rfl
              have z2 := cellAt hz 2 (v := .int .i64 0) rfl
              have z3 := cellAt hz 3 (v := .string ⟨#[]⟩) rfl
              have z4 := cellAt hz 4 (v := .bool false) rfl
              have z5 := frozenAt hz 0
              have z6 := frozenAt hz 1
              have z7 := frozenAt hz 2
              have z8 := frozenAt hz 3
              have z9 := frozenAt hz 4
              go_simp
              clear hz z0 z1 z2 z3 z4 z5 z6 z7 z8 z9
              clear hH
              have T11 : Sep w ([boxR _ (.cells #[.string ⟨#[]⟩, .int .i64 0, .int .i64 0, .string ⟨#[]⟩, .bool false] 45)] ++ baseB) _ := (Sep.setBox (cs := #[.string ⟨#[]⟩, .int .i64 0, .int .i64 0, .string ⟨#[]⟩, .bool false]) (t := 45) (Sep.setBox (cs := #[.string ⟨#[]⟩, .int .i64 0, .int .i64 0, .string ⟨#[]⟩, .bool false]) (t := 45) (Sep.setBox (cs := #[.string ⟨#[]⟩, .int .i64 0, .int .i64 0, .string ⟨#[]⟩, .bool false]) (t := 45) (Sep.setBox (cs := #[.string ⟨#[]⟩, .int .i64 0, .int .i64 0, .string ⟨#[]⟩, .bool false]) (t := 45) (Sep.setBox (cs := #[.string ⟨#[]⟩, .int .i64 0, .int .i64 0, .string ⟨#[]⟩, .bool false]) (t := 45) T10 0 rfl 0 (.string ⟨#[]⟩)) 0 rfl 1 (.int .i64 0)) 0 rfl 2 (.int .i64 0)) 0 rfl 3 (.string ⟨#[]⟩)) 0 rfl 4 (.bool false))
              try simp only [size_drew, World.size_alloc] at T11
              refine hK.out _ _ (KbaseB.out _ [_] T11) (fun hH => ?_)
              clear hK K
              refine wpAnyH_done (by kernel_rfl) ?_ _
              as_aux_lemma =>
                go_wp2_with fail
                go_meet
                exact ⟨_, rfl, T11⟩
        case rest =>
          obtain ⟨x24, rfl, S⟩ := hcut
          rw [HbaseB.out] at S
          clear KN KT KbaseA KbaseB HbaseA HbaseB
          replace S : Sep w (boxR x24 (.cells #[.string ⟨#[]⟩, .int .i64 0, .int .i64 0, .string ⟨#[]⟩, .bool false] 45) :: boxR (x22 + 1) (.cells #[.string ⟨#[]⟩, .int .i64 0, .int .i64 0, .string ⟨#[]⟩, .bool false] 45) :: boxR x22 (.cells #[.int .i64 z.kind, .int .i64 z.n, .string z.s] 33) :: boxR x20 (.cells #[.int .i64 r.kind, .int .i64 r.n, .string r.s] 33) :: boxR x18 (.cells #[.int .i64 z.kind, .int .i64 z.n, .string z.s] 33) :: boxR x14 (.cells #[.int .i64 z.kind, .int .i64 z.n, .string z.s] 33) :: valsR (.slice la L.length lc) L :: boxR x10 (.cells #[.int .i64 c.kind, .int .i64 c.n, .string c.s] 33) :: valsR (.slice oa out.length oc) out :: heapR h ((inst1 H c).put r (keyS s hsl) y7) :: boxR b (.cells #[sB, sH] 25) :: []) _ := S
          have d0 := cellAt (S.box (b := x20) 3 rfl) 0 (v := .int .i64 r.kind) rfl
          have d1 := cellAt (S.box (b := x20) 3 rfl) 1 (v := .int .i64 r.n) rfl
          have d2 := cellAt (S.box (b := x20) 3 rfl) 2 (v := .string r.s) rfl
          have M := Lib.hid (kf_get S 9 rfl HPL.out.2.2.1 (by omega) r s hsl (some y7) HPL.out.1.2.1.2.1)
          clear S
          go_wp2_with fail
          refine M.out.mono ?_
          rintro e w9 ⟨rfl, S⟩
          clear M d0 d1 d2
          try simp only [valE, excE, Option.isSome_some, Option.isSome_none]
          simp only [Hy7.out, valE, excE]
          replace S : Sep w (boxR x24 (.cells #[.string ⟨#[]⟩, .int .i64 0, .int .i64 0, .string ⟨#[]⟩, .bool false] 45) :: boxR (x22 + 1) (.cells #[.string ⟨#[]⟩, .int .i64 0, .int .i64 0, .string ⟨#[]⟩, .bool false] 45) :: boxR x22 (.cells #[.int .i64 z.kind, .int .i64 z.n, .string z.s] 33) :: boxR x20 (.cells #[.int .i64 r.kind, .int .i64 r.n, .string r.s] 33) :: boxR x18 (.cells #[.int .i64 z.kind, .int .i64 z.n, .string z.s] 33) :: boxR x14 (.cells #[.int .i64 z.kind, .int .i64 z.n, .string z.s] 33) :: valsR (.slice la L.length lc) L :: boxR x10 (.cells #[.int .i64 c.kind, .int .i64 c.n, .string c.s] 33) :: valsR (.slice oa out.length oc) out :: heapR h ((inst1 H c).put r (keyS s hsl) y7) :: boxR b (.cells #[sB, sH] 25) :: []) _ := S
          obtain ⟨x25, hx25⟩ : ∃ gx_, (w9.heap.size) = gx_ := ⟨_, rfl⟩
          replace S := ((S.alloc (.cells #[.int .i64 2, .int .i64 77, .string ⟨#[]⟩] 33)).alloc (.cells #[.string ⟨#[]⟩, .int .i64 0, .int .i64 0, .string ⟨#[]⟩, .bool false] 45))
          simp only [World.size_alloc, hx25] at S
          replace S : Sep w (boxR (x25 + 1) (.cells #[.string ⟨#[]⟩, .int .i64 0, .int .i64 0, .string ⟨#[]⟩, .bool false] 45) :: boxR x25 (.cells #[.int .i64 2, .int .i64 77, .string ⟨#[]⟩] 33) :: boxR x24 (.cells #[.string ⟨#[]⟩, .int .i64 0, .int .i64 0, .string ⟨#[]⟩, .bool false] 45) :: boxR (x22 + 1) (.cells #[.string ⟨#[]⟩, .int .i64 0, .int .i64 0, .string ⟨#[]⟩, .bool false] 45) :: boxR x22 (.cells #[.int .i64 z.kind, .int .i64 z.n, .string z.s] 33) :: boxR x20 (.cells #[.int .i64 r.kind, .int .i64 r.n, .string r.s] 33) :: boxR x18 (.cells #[.int .i64 z.kind, .int .i64 z.n, .string z.s] 33) :: boxR x14 (.cells #[.int .i64 z.kind, .int .i64 z.n, .string z.s] 33) :: valsR (.slice la L.length lc) L :: boxR x10 (.cells #[.int .i64 c.kind, .int .i64 c.n, .string c.s] 33) :: valsR (.slice oa out.length oc) out :: heapR h ((inst1 H c).put r (keyS s hsl) y7) :: boxR b (.cells #[sB, sH] 25) :: []) _ := S
          have d0 := cellAt (S.box (b := x10) 9 rfl) 0 (v := .int .i64 c.kind) rfl
          have d1 := cellAt (S.box (b := x10) 9 rfl) 1 (v := .int .i64 c.n) rfl
          have d2 := cellAt (S.box (b := x10) 9 rfl) 2 (v := .string c.s) rfl
          have M := Lib.hid (kf_find S 11 rfl HPL.out.2.2.1.G (by omega) c s hsl (some z) HPL.out.1.2.1.2.2.1)
          clear S
          go_wp2_with fail
          try simp only [hx25]
          refine M.out.mono ?_
          rintro e w10 ⟨rfl, S⟩
          clear M d0 d1 d2 hx25
          try simp only [valE, excE, Option.isSome_some, Option.isSome_none]
          replace S : Sep w (boxR (x25 + 1) (.cells #[.string ⟨#[]⟩, .int .i64 0, .int .i64 0, .string ⟨#[]⟩, .bool false] 45) :: boxR x25 (.cells #[.int .i64 2, .int .i64 77, .string ⟨#[]⟩] 33) :: boxR x24 (.cells #[.string ⟨#[]⟩, .int .i64 0, .int .i64 0, .string ⟨#[]⟩, .bool false] 45) :: boxR (x22 + 1) (.cells #[.string ⟨#[]⟩, .int .i64 0, .int .i64 0, .string ⟨#[]⟩, .bool false] 45) :: boxR x22 (.cells #[.int .i64 z.kind, .int .i64 z.n, .string z.s] 33) :: boxR x20 (.cells #[.int .i64 r.kind, .int .i64 r.n, .string r.s] 33) :: boxR x18 (.cells #[.int .i64 z.kind, .int .i64 z.n, .string z.s] 33) :: boxR x14 (.cells #[.int .i64 z.kind, .int .i64 z.n, .string z.s] 33) :: valsR (.slice la L.length lc) L :: boxR x10 (.cells #[.int .i64 c.kind, .int .i64 c.n, .string c.s] 33) :: valsR (.slice oa out.length oc) out :: heapR h ((inst1 H c).put r (keyS s hsl) y7) :: boxR b (.cells #[sB, sH] 25) :: []) _ := S
          obtain ⟨x27, hx27⟩ : ∃ gx_, (w10.heap.size) = gx_ := ⟨_, rfl⟩
          replace S := (S.alloc (.cells #[.int .i64 z.kind, .int .i64 z.n, .string z.s] 33))
          simp only [World.size_alloc, hx27] at S
          replace S : Sep w (boxR x27 (.cells #[.int .i64 z.kind, .int .i64 z.n, .string z.s] 33) :: boxR (x25 + 1) (.cells #[.string ⟨#[]⟩, .int .i64 0, .int .i64 0, .string ⟨#[]⟩, .bool false] 45) :: boxR x25 (.cells #[.int .i64 2, .int .i64 77, .string ⟨#[]⟩] 33) :: boxR x24 (.cells #[.string ⟨#[]⟩, .int .i64 0, .int .i64 0, .string ⟨#[]⟩, .bool false] 45) :: boxR (x22 + 1) (.cells #[.string ⟨#[]⟩, .int .i64 0, .int .i64 0, .string ⟨#[]⟩, .bool false] 45) :: boxR x22 (.cells #[.int .i64 z.kind, .int .i64 z.n, .string z.s] 33) :: boxR x20 (.cells #[.int .i64 r.kind, .int .i64 r.n, .string r.s] 33) :: boxR x18 (.cells #[.int .i64 z.kind, .int .i64 z.n, .string z.s] 33) :: boxR x14 (.cells #[.int .i64 z.kind, .int .i64 z.n, .string z.s] 33) :: valsR (.slice la L.length lc) L :: boxR x10 (.cells #[.int .i64 c.kind, .int .i64 c.n, .string c.s] 33) :: valsR (.slice oa out.length oc) out :: heapR h ((inst1 H c).put r (keyS s hsl) y7) :: boxR b (.cells #[sB, sH] 25) :: []) _ := S
          have d0 := cellAt (S.box (b := x20) 6 rfl) 0 (v := .int .i64 r.kind) rfl
          have d1 := cellAt (S.box (b := x20) 6 rfl) 1 (v := .int .i64 r.n) rfl
          have d2 := cellAt (S.box (b := x20) 6 rfl) 2 (v := .string r.s) rfl
          have M := Lib.hid (kf_del S 12 rfl r s hsl HPL.out.1.2.1.1 true HPL.out.1.2.1.2.2.2 excZ rfl)
          clear S
          go_wp2_with fail
          try simp only [hx27]
          refine M.out.mono ?_
          rintro e w11 ⟨rfl, S⟩
          clear M d0 d1 d2 hx27
          replace S : Sep w (boxR x27 (.cells #[.int .i64 z.kind, .int .i64 z.n, .string z.s] 33) :: boxR (x25 + 1) (.cells #[.string ⟨#[]⟩, .int .i64 0, .int .i64 0, .string ⟨#[]⟩, .bool false] 45) :: boxR x25 (.cells #[.int .i64 2, .int .i64 77, .string ⟨#[]⟩] 33) :: boxR x24 (.cells #[.string ⟨#[]⟩, .int .i64 0, .int .i64 0, .string ⟨#[]⟩, .bool false] 45) :: boxR (x22 + 1) (.cells #[.string ⟨#[]⟩, .int .i64 0, .int .i64 0, .string ⟨#[]⟩, .bool false] 45) :: boxR x22 (.cells #[.int .i64 z.kind, .int .i64 z.n, .string z.s] 33) :: boxR x20 (.cells #[.int .i64 r.kind, .int .i64 r.n, .string r.s] 33) :: boxR x18 (.cells #[.int .i64 z.kind, .int .i64 z.n, .string z.s] 33) :: boxR x14 (.cells #[.int .i64 z.kind, .int .i64 z.n, .string z.s] 33) :: valsR (.slice la L.length lc) L :: boxR x10 (.cells #[.int .i64 c.kind, .int .i64 c.n, .string c.s] 33) :: valsR (.slice oa out.length oc) out :: heapR h (((inst1 H c).put r (keyS s hsl) y7).del r (keyS s hsl)) :: boxR b (.cells #[sB, sH] 25) :: []) _ := S
          obtain ⟨x29, hx29⟩ : ∃ gx_, (w11.heap.size) = gx_ := ⟨_, rfl⟩
          replace S := (S.alloc (.cells #[.string ⟨#[]⟩, .int .i64 0, .int .i64 0, .string ⟨#[]⟩, .bool false] 45))
          simp only [World.size_alloc, hx29] at S
          replace S : Sep w (boxR x29 (.cells #[.string ⟨#[]⟩, .int .i64 0, .int .i64 0, .string ⟨#[]⟩, .bool false] 45) :: boxR x27 (.cells #[.int .i64 z.kind, .int .i64 z.n, .string z.s] 33) :: boxR (x25 + 1) (.cells #[.string ⟨#[]⟩, .int .i64 0, .int .i64 0, .string ⟨#[]⟩, .bool false] 45) :: boxR x25 (.cells #[.int .i64 2, .int .i64 77, .string ⟨#[]⟩] 33) :: boxR x24 (.cells #[.string ⟨#[]⟩, .int .i64 0, .int .i64 0, .string ⟨#[]⟩, .bool false] 45) :: boxR (x22 + 1) (.cells #[.string ⟨#[]⟩, .int .i64 0, .int .i64 0, .string ⟨#[]⟩, .bool false] 45) :: boxR x22 (.cells #[.int .i64 z.kind, .int .i64 z.n, .string z.s] 33) :: boxR x20 (.cells #[.int .i64 r.kind, .int .i64 r.n, .string r.s] 33) :: boxR x18 (.cells #[.int .i64 z.kind, .int .i64 z.n, .string z.s] 33) :: boxR x14 (.cells #[.int .i64 z.kind, .int .i64 z.n, .string z.s] 33) :: valsR (.slice la L.length lc) L :: boxR x10 (.cells #[.int .i64 c.kind, .int .i64 c.n, .string c.s] 33) :: valsR (.slice oa out.length oc) out :: heapR h (((inst1 H c).put r (keyS s hsl) y7).del r (keyS s hsl)) :: boxR b (.cells #[sB, sH] 25) :: []) _ := S
          have d0 := cellAt (S.box (b := x20) 7 rfl) 0 (v := .int .i64 r.kind) rfl
          have d1 := cellAt (S.box (b := x20) 7 rfl) 1 (v := .int .i64 r.n) rfl
          have d2 := cellAt (S.box (b := x20) 7 rfl) 2 (v := .string r.s) rfl
          have M := Lib.hid (kf_get S 13 rfl HPL.out.2.2.2 (by omega) r s hsl (some z) HPL.out.1.2.2.2.1)
          clear S
          go_wp2_with fail
          try simp only [hx29]
          refine M.out.mono ?_
          rintro e w12 ⟨rfl, S⟩
          clear M d0 d1 d2 hx29
          try simp only [valE, excE, Option.isSome_some, Option.isSome_none]
          replace S : Sep w (boxR x29 (.cells #[.string ⟨#[]⟩, .int .i64 0, .int .i64 0, .string ⟨#[]⟩, .bool false] 45) :: boxR x27 (.cells #[.int .i64 z.kind, .int .i64 z.n, .string z.s] 33) :: boxR (x25 + 1) (.cells #[.string ⟨#[]⟩, .int .i64 0, .int .i64 0, .string ⟨#[]⟩, .bool false] 45) :: boxR x25 (.cells #[.int .i64 2, .int .i64 77, .string ⟨#[]⟩] 33) :: boxR x24 (.cells #[.string ⟨#[]⟩, .int .i64 0, .int .i64 0, .string ⟨#[]⟩, .bool false] 45) :: boxR (x22 + 1) (.cells #[.string ⟨#[]⟩, .int .i64 0, .int .i64 0, .string ⟨#[]⟩, .bool false] 45) :: boxR x22 (.cells #[.int .i64 z.kind, .int .i64 z.n, .string z.s] 33) :: boxR x20 (.cells #[.int .i64 r.kind, .int .i64 r.n, .string r.s] 33) :: boxR x18 (.cells #[.int .i64 z.kind, .int .i64 z.n, .string z.s] 33) :: boxR x14 (.cells #[.int .i64 z.kind, .int .i64 z.n, .string z.s] 33) :: valsR (.slice la L.length lc) L :: boxR x10 (.cells #[.int .i64 c.kind, .int .i64 c.n, .string c.s] 33) :: valsR (.slice oa out.length oc) out :: heapR h (((inst1 H c).put r (keyS s hsl) y7).del r (keyS s hsl)) :: boxR b (.cells #[sB, sH] 25) :: []) _ := S
          obtain ⟨x30, hx30⟩ : ∃ gx_, (w12.heap.size) = gx_ := ⟨_, rfl⟩
          replace S := ((S.alloc (.cells #[.int .i64 z.kind, .int .i64 z.n, .string z.s] 33)).alloc (.cells #[.string ⟨#[]⟩, .int .i64 0, .int .i64 0, .string ⟨#[]⟩, .bool false] 45))
          simp only [World.size_alloc, hx30] at S
          replace S : Sep w (boxR (x30 + 1) (.cells #[.string ⟨#[]⟩, .int .i64 0, .int .i64 0, .string ⟨#[]⟩, .bool false] 45) :: boxR x30 (.cells #[.int .i64 z.kind, .int .i64 z.n, .string z.s] 33) :: boxR x29 (.cells #[.string ⟨#[]⟩, .int .i64 0, .int .i64 0, .string ⟨#[]⟩, .bool false] 45) :: boxR x27 (.cells #[.int .i64 z.kind, .int .i64 z.n, .string z.s] 33) :: boxR (x25 + 1) (.cells #[.string ⟨#[]⟩, .int .i64 0, .int .i64 0, .string ⟨#[]⟩, .bool false] 45) :: boxR x25 (.cells #[.int .i64 2, .int .i64 77, .string ⟨#[]⟩] 33) :: boxR x24 (.cells #[.string ⟨#[]⟩, .int .i64 0, .int .i64 0, .string ⟨#[]⟩, .bool false] 45) :: boxR (x22 + 1) (.cells #[.string ⟨#[]⟩, .int .i64 0, .int .i64 0, .string ⟨#[]⟩, .bool false] 45) :: boxR x22 (.cells #[.int .i64 z.kind, .int .i64 z.n, .string z.s] 33) :: boxR x20 (.cells #[.int .i64 r.kind, .int .i64 r.n, .string r.s] 33) :: boxR x18 (.cells #[.int .i64 z.kind, .int .i64 z.n, .string z.s] 33) :: boxR x14 (.cells #[.int .i64 z.kind, .int .i64 z.n, .string z.s] 33) :: valsR (.slice la L.length lc) L :: boxR x10 (.cells #[.int .i64 c.kind, .int .i64 c.n, .string c.s] 33) :: valsR (.slice oa out.length oc) out :: heapR h (((inst1 H c).put r (keyS s hsl) y7).del r (keyS s hsl)) :: boxR b (.cells #[sB, sH] 25) :: []) _ := S
          have d0 := cellAt (S.box (b := x20) 9 rfl) 0 (v := .int .i64 r.kind) rfl
          have d1 := cellAt (S.box (b := x20) 9 rfl) 1 (v := .int .i64 r.n) rfl
          have d2 := cellAt (S.box (b := x20) 9 rfl) 2 (v := .string r.s) rfl
          have M := Lib.hid (kf_del S 15 rfl r s hsl HPL.out.1.2.2.1 false HPL.out.1.2.2.2.2 (excA s) rfl)
          clear S
          go_wp2_with fail
          try simp only [hx30]
          refine M.out.mono ?_
          rintro e w13 ⟨rfl, S⟩
          clear M d0 d1 d2 hx30
          replace S : Sep w (boxR (x30 + 1) (.cells #[.string ⟨#[]⟩, .int .i64 0, .int .i64 0, .string ⟨#[]⟩, .bool false] 45) :: boxR x30 (.cells #[.int .i64 z.kind, .int .i64 z.n, .string z.s] 33) :: boxR x29 (.cells #[.string ⟨#[]⟩, .int .i64 0, .int .i64 0, .string ⟨#[]⟩, .bool false] 45) :: boxR x27 (.cells #[.int .i64 z.kind, .int .i64 z.n, .string z.s] 33) :: boxR (x25 + 1) (.cells #[.string ⟨#[]⟩, .int .i64 0, .int .i64 0, .string ⟨#[]⟩, .bool false] 45) :: boxR x25 (.cells #[.int .i64 2, .int .i64 77, .string ⟨#[]⟩] 33) :: boxR x24 (.cells #[.string ⟨#[]⟩, .int .i64 0, .int .i64 0, .string ⟨#[]⟩, .bool false] 45) :: boxR (x22 + 1) (.cells #[.string ⟨#[]⟩, .int .i64 0, .int .i64 0, .string ⟨#[]⟩, .bool false] 45) :: boxR x22 (.cells #[.int .i64 z.kind, .int .i64 z.n, .string z.s] 33) :: boxR x20 (.cells #[.int .i64 r.kind, .int .i64 r.n, .string r.s] 33) :: boxR x18 (.cells #[.int .i64 z.kind, .int .i64 z.n, .string z.s] 33) :: boxR x14 (.cells #[.int .i64 z.kind, .int .i64 z.n, .string z.s] 33) :: valsR (.slice la L.length lc) L :: boxR x10 (.cells #[.int .i64 c.kind, .int .i64 c.n, .string c.s] 33) :: valsR (.slice oa out.length oc) out :: heapR h ((((inst1 H c).put r (keyS s hsl) y7).del r (keyS s hsl)).del r (keyS s hsl)) :: boxR b (.cells #[sB, sH] 25) :: []) _ := S
          obtain ⟨x32, hx32⟩ : ∃ gx_, (w13.heap.size) = gx_ := ⟨_, rfl⟩
          replace S := (S.alloc (.cells #[.string attrError, .int .i64 3, .int .i64 0, .string s, .bool true] 45))
          simp only [World.size_alloc, hx32] at S
          replace S : Sep w (boxR x32 (.cells #[.string attrError, .int .i64 3, .int .i64 0, .string s, .bool true] 45) :: boxR (x30 + 1) (.cells #[.string ⟨#[]⟩, .int .i64 0, .int .i64 0, .string ⟨#[]⟩, .bool false] 45) :: boxR x30 (.cells #[.int .i64 z.kind, .int .i64 z.n, .string z.s] 33) :: boxR x29 (.cells #[.string ⟨#[]⟩, .int .i64 0, .int .i64 0, .string ⟨#[]⟩, .bool false] 45) :: boxR x27 (.cells #[.int .i64 z.kind, .int .i64 z.n, .string z.s] 33) :: boxR (x25 + 1) (.cells #[.string ⟨#[]⟩, .int .i64 0, .int .i64 0, .string ⟨#[]⟩, .bool false] 45) :: boxR x25 (.cells #[.int .i64 2, .int .i64 77, .string ⟨#[]⟩] 33) :: boxR x24 (.cells #[.string ⟨#[]⟩, .int .i64 0, .int .i64 0, .string ⟨#[]⟩, .bool false] 45) :: boxR (x22 + 1) (.cells #[.string ⟨#[]⟩, .int .i64 0, .int .i64 0, .string ⟨#[]⟩, .bool false] 45) :: boxR x22 (.cells #[.int .i64 z.kind, .int .i64 z.n, .string z.s] 33) :: boxR x20 (.cells #[.int .i64 r.kind, .int .i64 r.n, .string r.s] 33) :: boxR x18 (.cells #[.int .i64 z.kind, .int .i64 z.n, .string z.s] 33) :: boxR x14 (.cells #[.int .i64 z.kind, .int .i64 z.n, .string z.s] 33) :: valsR (.slice la L.length lc) L :: boxR x10 (.cells #[.int .i64 c.kind, .int .i64 c.n, .string c.s] 33) :: valsR (.slice oa out.length oc) out :: heapR h ((((inst1 H c).put r (keyS s hsl) y7).del r (keyS s hsl)).del r (keyS s hsl)) :: boxR b (.cells #[sB, sH] 25) :: []) _ := S
          have EE : ∀ W, (binOp .eql 45 (excZ) (excZ)).run Try.prog W = .ok (.bool true) W := fun W => by go_simp
          have EZ : ∀ W, (binOp .eql 45 excZ excZ).run Try.prog W = .ok (.bool true) W := fun W => by go_simp
          have EV : ∀ W, (binOp .eql 33 (.agg #[.int .i64 z.kind, .int .i64 z.n, .string z.s]) (.agg #[.int .i64 z.kind, .int .i64 z.n, .string z.s])).run Try.prog W = .ok (.bool true) W := fun W => eql_vals W z z true (by simp)
          obtain ⟨baseA, hbaseA⟩ : ∃ base, base = boxR x32 (.cells #[.string attrError, .int .i64 3, .int .i64 0, .string s, .bool true] 45) :: boxR (x30 + 1) (.cells #[.string ⟨#[]⟩, .int .i64 0, .int .i64 0, .string ⟨#[]⟩, .bool false] 45) :: boxR x30 (.cells #[.int .i64 z.kind, .int .i64 z.n, .string z.s] 33) :: boxR x29 (.cells #[.string ⟨#[]⟩, .int .i64 0, .int .i64 0, .string ⟨#[]⟩, .bool false] 45) :: boxR x27 (.cells #[.int .i64 z.kind, .int .i64 z.n, .string z.s] 33) :: boxR (x25 + 1) (.cells #[.string ⟨#[]⟩, .int .i64 0, .int .i64 0, .string ⟨#[]⟩, .bool false] 45) :: boxR x25 (.cells #[.int .i64 2, .int .i64 77, .string ⟨#[]⟩] 33) :: boxR x24 (.cells #[.string ⟨#[]⟩, .int .i64 0, .int .i64 0, .string ⟨#[]⟩, .bool false] 45) :: boxR (x22 + 1) (.cells #[.string ⟨#[]⟩, .int .i64 0, .int .i64 0, .string ⟨#[]⟩, .bool false] 45) :: boxR x22 (.cells #[.int .i64 z.kind, .int .i64 z.n, .string z.s] 33) :: boxR x20 (.cells #[.int .i64 r.kind, .int .i64 r.n, .string r.s] 33) :: boxR x18 (.cells #[.int .i64 z.kind, .int .i64 z.n, .string z.s] 33) :: boxR x14 (.cells #[.int .i64 z.kind, .int .i64 z.n, .string z.s] 33) :: valsR (.slice la L.length lc) L :: boxR x10 (.cells #[.int .i64 c.kind, .int .i64 c.n, .string c.s] 33) :: valsR (.slice oa out.length oc) out :: heapR h ((((inst1 H c).put r (keyS s hsl) y7).del r (keyS s hsl)).del r (keyS s hsl)) :: boxR b (.cells #[sB, sH] 25) :: [] := ⟨_, rfl⟩
          have HbaseA := Lib.hid hbaseA
          have KbaseA : Hid (∀ W (Q : List Res), Sep w (Q ++ baseA) W → W.cell? ⟨x24, 0, none⟩ = some (.string ⟨#[]⟩) ∧ W.cell? ⟨x24, 1, none⟩ = some (.int .i64 0) ∧ W.cell? ⟨x24, 2, none⟩ = some (.int .i64 0) ∧ W.cell? ⟨x24, 3, none⟩ = some (.string ⟨#[]⟩) ∧ W.cell? ⟨x24, 4, none⟩ = some (.bool false) ∧ W.cell? ⟨x25, 0, none⟩ = some (.int .i64 2) ∧ W.cell? ⟨x25, 1, none⟩ = some (.int .i64 77) ∧ W.cell? ⟨x25, 2, none⟩ = some (.string ⟨#[]⟩) ∧ W.cell? ⟨x25 + 1, 0, none⟩ = some (.string ⟨#[]⟩) ∧ W.cell? ⟨x25 + 1, 1, none⟩ = some (.int .i64 0) ∧ W.cell? ⟨x25 + 1, 2, none⟩ = some (.int .i64 0) ∧ W.cell? ⟨x25 + 1, 3, none⟩ = some (.string ⟨#[]⟩) ∧ W.cell? ⟨x25 + 1, 4, none⟩ = some (.bool false) ∧ W.cell? ⟨x27, 0, none⟩ = some (.int .i64 z.kind) ∧ W.cell? ⟨x27, 1, none⟩ = some (.int .i64 z.n) ∧ W.cell? ⟨x27, 2, none⟩ = some (.string z.s) ∧ W.cell? ⟨x14, 0, none⟩ = some (.int .i64 z.kind) ∧ W.cell? ⟨x14, 1, none⟩ = some (.int .i64 z.n) ∧ W.cell? ⟨x14, 2, none⟩ = some (.string z.s) ∧ W.cell? ⟨x29, 0, none⟩ = some (.string ⟨#[]⟩) ∧ W.cell? ⟨x29, 1, none⟩ = some (.int .i64 0) ∧ W.cell? ⟨x29, 2, none⟩ = some (.int .i64 0) ∧ W.cell? ⟨x29, 3, none⟩ = some (.string ⟨#[]⟩) ∧ W.cell? ⟨x29, 4, none⟩ = some (.bool false) ∧ W.cell? ⟨x30, 0, none⟩ = some (.int .i64 z.kind) ∧ W.cell? ⟨x30, 1, none⟩ = some (.int .i64 z.n) ∧ W.cell? ⟨x30, 2, none⟩ = some (.string z.s) ∧ W.cell? ⟨x30 + 1, 0, none⟩ = some (.string ⟨#[]⟩) ∧ W.cell? ⟨x30 + 1, 1, none⟩ = some (.int .i64 0) ∧ W.cell? ⟨x30 + 1, 2, none⟩ = some (.int .i64 0) ∧ W.cell? ⟨x30 + 1, 3, none⟩ = some (.string ⟨#[]⟩) ∧ W.cell? ⟨x30 + 1, 4, none⟩ = some (.bool false) ∧ W.cell? ⟨x22 + 1, 0, none⟩ = some (.string ⟨#[]⟩) ∧ W.cell? ⟨x22 + 1, 1, none⟩ = some (.int .i64 0) ∧ W.cell? ⟨x22 + 1, 2, none⟩ = some (.int .i64 0) ∧ W.cell? ⟨x22 + 1, 3, none⟩ = some (.string ⟨#[]⟩) ∧ W.cell? ⟨x22 + 1, 4, none⟩ = some (.bool false) ∧ W.cell? ⟨x32, 0, none⟩ = some (.string attrError) ∧ W.cell? ⟨x32, 1, none⟩ = some (.int .i64 3) ∧ W.cell? ⟨x32, 2, none⟩ = some (.int .i64 0) ∧ W.cell? ⟨x32, 3, none⟩ = some (.string s) ∧ W.cell? ⟨x32, 4, none⟩ = some (.bool true)) := Lib.hid fun W Q T => by
            rw [hbaseA] at T
            have i0 := T.box (b := x24) (o := .cells #[.string ⟨#[]⟩, .int .i64 0, .int .i64 0, .string ⟨#[]⟩, .bool false] 45) (Q.length + 7) (by rw [List.getElem?_append_right (by omega), Nat.add_sub_cancel_left]; rfl)
            have i1 := T.box (b := x25) (o := .cells #[.int .i64 2, .int .i64 77, .string ⟨#[]⟩] 33) (Q.length + 6) (by rw [List.getElem?_append_right (by omega), Nat.add_sub_cancel_left]; rfl)
            have i2 := T.box (b := x25 + 1) (o := .cells #[.string ⟨#[]⟩, .int .i64 0, .int .i64 0, .string ⟨#[]⟩, .bool false] 45) (Q.length + 5) (by rw [List.getElem?_append_right (by omega), Nat.add_sub_cancel_left]; rfl)
            have i3 := T.box (b := x27) (o := .cells #[.int .i64 z.kind, .int .i64 z.n, .string z.s] 33) (Q.length + 4) (by rw [List.getElem?_append_right (by omega), Nat.add_sub_cancel_left]; rfl)
            have i4 := T.box (b := x14) (o := .cells #[.int .i64 z.kind, .int .i64 z.n, .string z.s] 33) (Q.length + 12) (by rw [List.getElem?_append_right (by omega), Nat.add_sub_cancel_left]; rfl)
            have i5 := T.box (b := x29) (o := .cells #[.string ⟨#[]⟩, .int .i64 0, .int .i64 0, .string ⟨#[]⟩, .bool false] 45) (Q.length + 3) (by rw [List.getElem?_append_right (by omega), Nat.add_sub_cancel_left]; rfl)
            have i6 := T.box (b := x30) (o := .cells #[.int .i64 z.kind, .int .i64 z.n, .string z.s] 33) (Q.length + 2) (by rw [List.getElem?_append_right (by omega), Nat.add_sub_cancel_left]; rfl)
            have i7 := T.box (b := x30 + 1) (o := .cells #[.string ⟨#[]⟩, .int .i64 0, .int .i64 0, .string ⟨#[]⟩, .bool false] 45) (Q.length + 1) (by rw [List.getElem?_append_right (by omega), Nat.add_sub_cancel_left]; rfl)
            have i8 := T.box (b := x22 + 1) (o := .cells #[.string ⟨#[]⟩, .int .i64 0, .int .i64 0, .string ⟨#[]⟩, .bool false] 45) (Q.length + 8) (by rw [List.getElem?_append_right (by omega), Nat.add_sub_cancel_left]; rfl)
            have i9 := T.box (b := x32) (o := .cells #[.string attrError, .int .i64 3, .int .i64 0, .string s, .bool true] 45) (Q.length + 0) (by rw [List.getElem?_append_right (by omega), Nat.add_sub_cancel_left]; rfl)
            exact ⟨cellAt i0 0 rfl, cellAt i0 1 rfl, cellAt i0 2 rfl, cellAt i0 3 rfl, cellAt i0 4 rfl, cellAt i1 0 rfl, cellAt i1 1 rfl, cellAt i1 2 rfl, cellAt i2 0 rfl, cellAt i2 1 rfl, cellAt i2 2 rfl, cellAt i2 3 rfl, cellAt i2 4 rfl, cellAt i3 0 rfl, cellAt i3 1 rfl, cellAt i3 2 rfl, cellAt i4 0 rfl, cellAt i4 1 rfl, cellAt i4 2 rfl, cellAt i5 0 rfl, cellAt i5 1 rfl, cellAt i5 2 rfl, cellAt i5 3 rfl, cellAt i5 4 rfl, cellAt i6 0 rfl, cellAt i6 1 rfl, cellAt i6 2 rfl, cellAt i7 0 rfl, cellAt i7 1 rfl, cellAt i7 2 rfl, cellAt i7 3 rfl, cellAt i7 4 rfl, cellAt i8 0 rfl, cellAt i8 1 rfl, cellAt i8 2 rfl, cellAt i8 3 rfl, cellAt i8 4 rfl, cellAt i9 0 rfl, cellAt i9 1 rfl, cellAt i9 2 rfl, cellAt i9 3 rfl, cellAt i9 4 rfl⟩
          have KN : Hid (∀ W (Q : List Res), Sep w (Q ++ baseA) W → Calls Try.prog 29 #[.int .i64 77] W fun e W' => e = .returned (.agg #[.int .i64 2, .int .i64 77, .string ⟨#[]⟩]) ∧ Sep w (Q ++ baseA) W') := Lib.hid fun W Q T => by
            exact (num_ok W _).mono fun e W' ⟨e1, e2⟩ => ⟨e1, T.later e2⟩
          replace S : Sep w baseA (w13.alloc (.cells #[.string attrError, .int .i64 3, .int .i64 0, .string s, .bool true] 45)) := by rw [hbaseA]; exact S
          replace S := Lib.hid S
          clear hbaseA
          go_upto_region 28 with fail
          try simp only [hx32]
          obtain ⟨Wd28, hW⟩ : ∃ gx_, ((w13.alloc (.cells #[.string attrError, .int .i64 3, .int .i64 0, .string s, .bool true] 45))) = gx_ := ⟨_, rfl⟩
          rw [hW] at S ⊢
          clear hW hx32
          go_cut [6] (fun s6 wx => s6 = .bool true ∧ Below w.heap.size w wx)
          case first =>
            have T0 : Sep w ([] ++ baseA) _ := S.out.drew
            clear S
            as_aux_lemma =>
              refine wp_region_held_drew (S := fun W => W.cell? ⟨x24, 0, none⟩ = some (.string ⟨#[]⟩) ∧ W.cell? ⟨x24, 1, none⟩ = some (.int .i64 0) ∧ W.cell? ⟨x24, 2, none⟩ = some (.int .i64 0) ∧ W.cell? ⟨x24, 3, none⟩ = some (.string ⟨#[]⟩) ∧ W.cell? ⟨x24, 4, none⟩ = some (.bool false) ∧ W.cell? ⟨x25, 0, none⟩ = some (.int .i64 2) ∧ W.cell? ⟨x25, 1, none⟩ = some (.int .i64 77) ∧ W.cell? ⟨x25, 2, none⟩ = some (.string ⟨#[]⟩) ∧ W.cell? ⟨x25 + 1, 0, none⟩ = some (.string ⟨#[]⟩) ∧ W.cell? ⟨x25 + 1, 1, none⟩ = some (.int .i64 0) ∧ W.cell? ⟨x25 + 1, 2, none⟩ = some (.int .i64 0) ∧ W.cell? ⟨x25 + 1, 3, none⟩ = some (.string ⟨#[]⟩) ∧ W.cell? ⟨x25 + 1, 4, none⟩ = some (.bool false) ∧ W.cell? ⟨x27, 0, none⟩ = some (.int .i64 z.kind) ∧ W.cell? ⟨x27, 1, none⟩ = some (.int .i64 z.n) ∧ W.cell? ⟨x27, 2, none⟩ = some (.string z.s) ∧ W.cell? ⟨x14, 0, none⟩ = some (.int .i64 z.kind) ∧ W.cell? ⟨x14, 1, none⟩ = some (.int .i64 z.n) ∧ W.cell? ⟨x14, 2, none⟩ = some (.string z.s) ∧ W.cell? ⟨x29, 0, none⟩ = some (.string ⟨#[]⟩) ∧ W.cell? ⟨x29, 1, none⟩ = some (.int .i64 0) ∧ W.cell? ⟨x29, 2, none⟩ = some (.int .i64 0) ∧ W.cell? ⟨x29, 3, none⟩ = some (.string ⟨#[]⟩) ∧ W.cell? ⟨x29, 4, none⟩ = some (.bool false) ∧ W.cell? ⟨x30, 0, none⟩ = some (.int .i64 z.kind) ∧ W.cell? ⟨x30, 1, none⟩ = some (.int .i64 z.n) ∧ W.cell? ⟨x30, 2, none⟩ = some (.string z.s) ∧ W.cell? ⟨x30 + 1, 0, none⟩ = some (.string ⟨#[]⟩) ∧ W.cell? ⟨x30 + 1, 1, none⟩ = some (.int .i64 0) ∧ W.cell? ⟨x30 + 1, 2, none⟩ = some (.int .i64 0) ∧ W.cell? ⟨x30 + 1, 3, none⟩ = some (.string ⟨#[]⟩) ∧ W.cell? ⟨x30 + 1, 4, none⟩ = some (.bool false) ∧ W.cell? ⟨x22 + 1, 0, none⟩ = some (.string ⟨#[]⟩) ∧ W.cell? ⟨x22 + 1, 1, none⟩ = some (.int .i64 0) ∧ W.cell? ⟨x22 + 1, 2, none⟩ = some (.int .i64 0) ∧ W.cell? ⟨x22 + 1, 3, none⟩ = some (.string ⟨#[]⟩) ∧ W.cell? ⟨x22 + 1, 4, none⟩ = some (.bool false) ∧ W.cell? ⟨x32, 0, none⟩ = some (.string attrError) ∧ W.cell? ⟨x32, 1, none⟩ = some (.int .i64 3) ∧ W.cell? ⟨x32, 2, none⟩ = some (.int .i64 0) ∧ W.cell? ⟨x32, 3, none⟩ = some (.string s) ∧ W.cell? ⟨x32, 4, none⟩ = some (.bool true)) (by kernel_rfl) (KbaseA.out _ [] T0) (fun hH => ?_)
              refine takeT 0 hH (hy := .inl ⟨by rfl, by (intro w hSw; try obtain ⟨u0, u1, u2, u3, u4, u5, u6, u7, u8, u9, u10, u11, u12, u13, u14, u15, u16, u17, u18, u19, u20, u21, u22, u23, u24, u25, u26, u27, u28, u29, u30, u31, u32, u33, u34, u35, u36, u37, u38, u39, u40, u41⟩ := hSw); (go_simp; try rfl)⟩) (h := ?_)
              simp only [Act.put, List.setIfInBounds_toArray, List.set_cons_zero, List.set_cons_succ]
              refine takeT 1 hH (hy := .inl ⟨by rfl, by (intro w hSw; try obtain ⟨u0, u1, u2, u3, u4, u5, u6, u7, u8, u9, u10, u11, u12, u13, u14, u15, u16, u17, u18, u19, u20, u21, u22, u23, u24, u25, u26, u27, u28, u29, u30, u31, u32, u33, u34, u35, u36, u37, u38, u39, u40, u41⟩ := hSw); (go_simp; try rfl)⟩) (h := ?_)
              simp only [Act.put, List.setIfInBounds_toArray, List.set_cons_zero, List.set_cons_succ]
              refine takeT 2 hH (hy := .inl ⟨by rfl, by (intro w hSw; try obtain ⟨u0, u1, u2, u3, u4, u5, u6, u7, u8, u9, u10, u11, u12, u13, u14, u15, u16, u17, u18, u19, u20, u21, u22, u23, u24, u25, u26, u27, u28, u29, u30, u31, u32, u33, u34, u35, u36, u37, u38, u39, u40, u41⟩ := hSw); (go_simp; try rfl)⟩) (h := ?_)
              simp only [Act.put, List.setIfInBounds_toArray, List.set_cons_zero, List.set_cons_succ]
              refine takeT 3 hH (hy := .inl ⟨by rfl, by (intro w hSw; try obtain ⟨u0, u1, u2, u3, u4, u5, u6, u7, u8, u9, u10, u11, u12, u13, u14, u15, u16, u17, u18, u19, u20, u21, u22, u23, u24, u25, u26, u27, u28, u29, u30, u31, u32, u33, u34, u35, u36, u37, u38, u39, u40, u41⟩ := hSw); (go_simp; try rfl)⟩) (h := ?_)
              simp only [Act.put, List.setIfInBounds_toArray, List.set_cons_zero, List.set_cons_succ]
              refine takeT 4 hH (hy := .inl ⟨by rfl, by (intro w hSw; try obtain ⟨u0, u1, u2, u3, u4, u5, u6, u7, u8, u9, u10, u11, u12, u13, u14, u15, u16, u17, u18, u19, u20, u21, u22, u23, u24, u25, u26, u27, u28, u29, u30, u31, u32, u33, u34, u35, u36, u37, u38, u39, u40, u41⟩ := hSw); (go_simp; try rfl)⟩) (h := ?_)
              simp only [Act.put, List.setIfInBounds_toArray, List.set_cons_zero, List.set_cons_succ]
              refine takeT 5 hH (hy := .inl ⟨by rfl, by (intro w hSw; try obtain ⟨u0, u1, u2, u3, u4, u5, u6, u7, u8, u9, u10, u11, u12, u13, u14, u15, u16, u17, u18, u19, u20, u21, u22, u23, u24, u25, u26, u27, u28, u29, u30, u31, u32, u33, u34, u35, u36, u37, u38, u39, u40, u41⟩ := hSw); (go_simp; try rfl)⟩) (h := ?_)
              simp only [Act.put, List.setIfInBounds_toArray, List.set_cons_zero, List.set_cons_succ]
              refine takeT 6 hH (hy := .inl ⟨by rfl, by (intro w hSw; try obtain ⟨u0, u1, u2, u3, u4, u5, u6, u7, u8, u9, u10, u11, u12, u13, u14, u15, u16, u17, u18, u19, u20, u21, u22, u23, u24, u25, u26, u27, u28, u29, u30, u31, u32, u33, u34, u35, u36, u37, u38, u39, u40, u41⟩ := hSw); (go_simp; try rfl)⟩) (h := ?_)
              simp only [Act.put, List.setIfInBounds_toArray, List.set_cons_zero, List.set_cons_succ]
              refine takeT 7 hH (hy := .inl ⟨by rfl, by (intro w hSw; try obtain ⟨u0, u1, u2, u3, u4, u5, u6, u7, u8, u9, u10, u11, u12, u13, u14, u15, u16, u17, u18, u19, u20, u21, u22, u23, u24, u25, u26, u27, u28, u29, u30, u31, u32, u33, u34, u35, u36, u37, u38, u39, u40, u41⟩ := hSw); (go_simp; try rfl)⟩) (h := ?_)
              simp only [Act.put, List.setIfInBounds_toArray, List.set_cons_zero, List.set_cons_succ]
              refine readyT [8] ?_
              refine consT (fun K hK => ?_) AllReadyH.nil
              go_simp
              go_wp2_with (go_at_call 29; refine (KN.out _ [] T0).mono ?_; rintro e w1 ⟨rfl, T1⟩)
              clear hH
              refine hK.out _ _ (KbaseA.out _ [] T1) (fun hH => ?_)
              clear hK K
              refine takeT 9 hH (hy := .inl ⟨by rfl, by (intro w hSw; try obtain ⟨u0, u1, u2, u3, u4, u5, u6, u7, u8, u9, u10, u11, u12, u13, u14, u15, u16, u17, u18, u19, u20, u21, u22, u23, u24, u25, u26, u27, u28, u29, u30, u31, u32, u33, u34, u35, u36, u37, u38, u39, u40, u41⟩ := hSw); (go_simp; try rfl)⟩) (h := ?_)
              simp only [Act.put, List.setIfInBounds_toArray, List.set_cons_zero, List.set_cons_succ]
              refine takeT 10 hH (hy := .inl ⟨by rfl, by (intro w hSw; try obtain ⟨u0, u1, u2, u3, u4, u5, u6, u7, u8, u9, u10, u11, u12, u13, u14, u15, u16, u17, u18, u19, u20, u21, u22, u23, u24, u25, u26, u27, u28, u29, u30, u31, u32, u33, u34, u35, u36, u37, u38, u39, u40, u41⟩ := hSw); (go_simp; try rfl)⟩) (h := ?_)
              simp only [Act.put, List.setIfInBounds_toArray, List.set_cons_zero, List.set_cons_succ]
              refine takeT 11 hH (hy := .inl ⟨by rfl, by (intro w hSw; try obtain ⟨u0, u1, u2, u3, u4, u5, u6, u7, u8, u9, u10, u11, u12, u13, u14, u15, u16, u17, u18, u19, u20, u21, u22, u23, u24, u25, u26, u27, u28, u29, u30, u31, u32, u33, u34, u35, u36, u37, u38, u39, u40, u41⟩ := hSw); (go_simp; try rfl)⟩) (h := ?_)
              simp only [Act.put, List.setIfInBounds_toArray, List.set_cons_zero, List.set_cons_succ]
              refine takeT 12 hH (hy := .inl ⟨by rfl, by (intro w hSw; try obtain ⟨u0, u1, u2, u3, u4, u5, u6, u7, u8, u9, u10, u11, u12, u13, u14, u15, u16, u17, u18, u19, u20, u21, u22, u23, u24, u25, u26, u27, u28, u29, u30, u31, u32, u33, u34, u35, u36, u37, u38, u39, u40, u41⟩ := hSw); (go_simp; try rfl)⟩) (h := ?_)
              simp only [Act.put, List.setIfInBounds_toArray, List.set_cons_zero, List.set_cons_succ]
              refine takeT 13 hH (hy := .inl ⟨by rfl, by (intro w hSw; try obtain ⟨u0, u1, u2, u3, u4, u5, u6, u7, u8, u9, u10, u11, u12, u13, u14, u15, u16, u17, u18, u19, u20, u21, u22, u23, u24, u25, u26, u27, u28, u29, u30, u31, u32, u33, u34, u35, u36, u37, u38, u39, u40, u41⟩ := hSw); (go_simp; try rfl)⟩) (h := ?_)
              simp only [Act.put, List.setIfInBounds_toArray, List.set_cons_zero, List.set_cons_succ]
              refine takeT 14 hH (hy := .inl ⟨by rfl, by (intro w hSw; try obtain ⟨u0, u1, u2, u3, u4, u5, u6, u7, u8, u9, u10, u11, u12, u13, u14, u15, u16, u17, u18, u19, u20, u21, u22, u23, u24, u25, u26, u27, u28, u29, u30, u31, u32, u33, u34, u35, u36, u37, u38, u39, u40, u41⟩ := hSw); (go_simp; try rfl)⟩) (h := ?_)
              simp only [Act.put, List.setIfInBounds_toArray, List.set_cons_zero, List.set_cons_succ]
              refine takeT 15 hH (hy := .inl ⟨by rfl, by (intro w hSw; try obtain ⟨u0, u1, u2, u3, u4, u5, u6, u7, u8, u9, u10, u11, u12, u13, u14, u15, u16, u17, u18, u19, u20, u21, u22, u23, u24, u25, u26, u27, u28, u29, u30, u31, u32, u33, u34, u35, u36, u37, u38, u39, u40, u41⟩ := hSw); (go_simp; try rfl)⟩) (h := ?_)
              simp only [Act.put, List.setIfInBounds_toArray, List.set_cons_zero, List.set_cons_succ]
              refine takeT 16 hH (hy := .inl ⟨by rfl, by (intro w hSw; try obtain ⟨u0, u1, u2, u3, u4, u5, u6, u7, u8, u9, u10, u11, u12, u13, u14, u15, u16, u17, u18, u19, u20, u21, u22, u23, u24, u25, u26, u27, u28, u29, u30, u31, u32, u33, u34, u35, u36, u37, u38, u39, u40, u41⟩ := hSw); (go_simp; try rfl)⟩) (h := ?_)
              simp only [Act.put, List.setIfInBounds_toArray, List.set_cons_zero, List.set_cons_succ]
              refine takeT 17 hH (hy := .inl ⟨by rfl, by (intro w hSw; try obtain ⟨u0, u1, u2, u3, u4, u5, u6, u7, u8, u9, u10, u11, u12, u13, u14, u15, u16, u17, u18, u19, u20, u21, u22, u23, u24, u25, u26, u27, u28, u29, u30, u31, u32, u33, u34, u35, u36, u37, u38, u39, u40, u41⟩ := hSw); (go_simp; try rfl)⟩) (h := ?_)
              simp only [Act.put, List.setIfInBounds_toArray, List.set_cons_zero, List.set_cons_succ]
              refine takeT 18 hH (hy := .inl ⟨by rfl, by (intro w hSw; try obtain ⟨u0, u1, u2, u3, u4, u5, u6, u7, u8, u9, u10, u11, u12, u13, u14, u15, u16, u17, u18, u19, u20, u21, u22, u23, u24, u25, u26, u27, u28, u29, u30, u31, u32, u33, u34, u35, u36, u37, u38, u39, u40, u41⟩ := hSw); (go_simp; try rfl)⟩) (h := ?_)
              simp only [Act.put, List.setIfInBounds_toArray, List.set_cons_zero, List.set_cons_succ]
              refine takeT 19 hH (hy := .inl ⟨by rfl, by (intro w hSw; try obtain ⟨u0, u1, u2, u3, u4, u5, u6, u7, u8, u9, u10, u11, u12, u13, u14, u15, u16, u17, u18, u19, u20, u21, u22, u23, u24, u25, u26, u27, u28, u29, u30, u31, u32, u33, u34, u35, u36, u37, u38, u39, u40, u41⟩ := hSw); (go_simp; try rfl)⟩) (h := ?_)
              simp only [Act.put, List.setIfInBounds_toArray, List.set_cons_zero, List.set_cons_succ]
              refine takeT 20 hH (hy := .inl ⟨by rfl, by (intro w hSw; try obtain ⟨u0, u1, u2, u3, u4, u5, u6, u7, u8, u9, u10, u11, u12, u13, u14, u15, u16, u17, u18, u19, u20, u21, u22, u23, u24, u25, u26, u27, u28, u29, u30, u31, u32, u33, u34, u35, u36, u37, u38, u39, u40, u41⟩ := hSw); (go_simp; try rfl)⟩) (h := ?_)
              simp only [Act.put, List.setIfInBounds_toArray, List.set_cons_zero, List.set_cons_succ]
              refine takeT 21 hH (hy := .inl ⟨by rfl, by (intro w hSw; try obtain ⟨u0, u1, u2, u3, u4, u5, u6, u7, u8, u9, u10, u11, u12, u13, u14, u15, u16, u17, u18, u19, u20, u21, u22, u23, u24, u25, u26, u27, u28, u29, u30, u31, u32, u33, u34, u35, u36, u37, u38, u39, u40, u41⟩ := hSw); (go_simp; try rfl)⟩) (h := ?_)
              simp only [Act.put, List.setIfInBounds_toArray, List.set_cons_zero, List.set_cons_succ]
              refine takeT 22 hH (hy := .inl ⟨by rfl, by (intro w hSw; try obtain ⟨u0, u1, u2, u3, u4, u5, u6, u7, u8, u9, u10, u11, u12, u13, u14, u15, u16, u17, u18, u19, u20, u21, u22, u23, u24, u25, u26, u27, u28, u29, u30, u31, u32, u33, u34, u35, u36, u37, u38, u39, u40, u41⟩ := hSw); (go_simp; try rfl)⟩) (h := ?_)
              simp only [Act.put, List.setIfInBounds_toArray, List.set_cons_zero, List.set_cons_succ]
              refine takeT 23 hH (hy := .inl ⟨by rfl, by (intro w hSw; try obtain ⟨u0, u1, u2, u3, u4, u5, u6, u7, u8, u9, u10, u11, u12, u13, u14, u15, u16, u17, u18, u19, u20, u21, u22, u23, u24, u25, u26, u27, u28, u29, u30, u31, u32, u33, u34, u35, u36, u37, u38, u39, u40, u41⟩ := hSw); (go_simp; try rfl)⟩) (h := ?_)
              simp only [Act.put, List.setIfInBounds_toArray, List.set_cons_zero, List.set_cons_succ]
              refine takeT 24 hH (hy := .inl ⟨by rfl, by (intro w hSw; try obtain ⟨u0, u1, u2, u3, u4, u5, u6, u7, u8, u9, u10, u11, u12, u13, u14, u15, u16, u17, u18, u19, u20, u21, u22, u23, u24, u25, u26, u27, u28, u29, u30, u31, u32, u33, u34, u35, u36, u37, u38, u39, u40, u41⟩ := hSw); (go_simp; try rfl)⟩) (h := ?_)
              simp only [Act.put, List.setIfInBounds_toArray, List.set_cons_zero, List.set_cons_succ]
              refine takeT 25 hH (hy := .inl ⟨by rfl, by (intro w hSw; try obtain ⟨u0, u1, u2, u3, u4, u5, u6, u7, u8, u9, u10, u11, u12, u13, u14, u15, u16, u17, u18, u19, u20, u21, u22, u23, u24, u25, u26, u27, u28, u29, u30, u31, u32, u33, u34, u35, u36, u37, u38, u39, u40, u41⟩ := hSw); (go_simp; try rfl)⟩) (h := ?_)
              simp only [Act.put, List.setIfInBounds_toArray, List.set_cons_zero, List.set_cons_succ]
              refine takeT 26 hH (hy := .inl ⟨by rfl, by (intro w hSw; try obtain ⟨u0, u1, u2, u3, u4, u5, u6, u7, u8, u9, u10, u11, u12, u13, u14, u15, u16, u17, u18, u19, u20, u21, u22, u23, u24, u25, u26, u27, u28, u29, u30, u31, u32, u33, u34, u35, u36, u37, u38, u39, u40, u41⟩ := hSw); (go_simp; try rfl)⟩) (h := ?_)
              simp only [Act.put, List.setIfInBounds_toArray, List.set_cons_zero, List.set_cons_succ]
              refine takeT 27 hH (hy := .inl ⟨by rfl, by (intro w hSw; try obtain ⟨u0, u1, u2, u3, u4, u5, u6, u7, u8, u9, u10, u11, u12, u13, u14, u15, u16, u17, u18, u19, u20, u21, u22, u23, u24, u25, u26, u27, u28, u29, u30, u31, u32, u33, u34, u35, u36, u37, u38, u39, u40, u41⟩ := hSw); (go_simp; try rfl)⟩) (h := ?_)
              simp only [Act.put, List.setIfInBounds_toArray, List.set_cons_zero, List.set_cons_succ]
              refine takeT 28 hH (hy := .inl ⟨by rfl, by (intro w hSw; try obtain ⟨u0, u1, u2, u3, u4, u5, u6, u7, u8, u9, u10, u11, u12, u13, u14, u15, u16, u17, u18, u19, u20, u21, u22, u23, u24, u25, u26, u27, u28, u29, u30, u31, u32, u33, u34, u35, u36, u37, u38, u39, u40, u41⟩ := hSw); (go_simp; try rfl)⟩) (h := ?_)
              simp only [Act.put, List.setIfInBounds_toArray, List.set_cons_zero, List.set_cons_succ]
              refine takeT 29 hH (hy := .inl ⟨by rfl, by (intro w hSw; try obtain ⟨u0, u1, u2, u3, u4, u5, u6, u7, u8, u9, u10, u11, u12, u13, u14, u15, u16, u17, u18, u19, u20, u21, u22, u23, u24, u25, u26, u27, u28, u29, u30, u31, u32, u33, u34, u35, u36, u37, u38, u39, u40, u41⟩ := hSw); (go_simp; try rfl)⟩) (h := ?_)
              simp only [Act.put, List.setIfInBounds_toArray, List.set_cons_zero, List.set_cons_succ]
              refine takeT 30 hH (hy := .inl ⟨by rfl, by (intro w hSw; try obtain ⟨u0, u1, u2, u3, u4, u5, u6, u7, u8, u9, u10, u11, u12, u13, u14, u15, u16, u17, u18, u19, u20, u21, u22, u23, u24, u25, u26, u27, u28, u29, u30, u31, u32, u33, u34, u35, u36, u37, u38, u39, u40, u41⟩ := hSw); (go_simp; try rfl)⟩) (h := ?_)
              simp only [Act.put, List.setIfInBounds_toArray, List.set_cons_zero, List.set_cons_succ]
              refine takeT 31 hH (hy := .inl ⟨by rfl, by (intro w hSw; try obtain ⟨u0, u1, u2, u3, u4, u5, u6, u7, u8, u9, u10, u11, u12, u13, u14, u15, u16, u17, u18, u19, u20, u21, u22, u23, u24, u25, u26, u27, u28, u29, u30, u31, u32, u33, u34, u35, u36, u37, u38, u39, u40, u41⟩ := hSw); (go_simp; try rfl)⟩) (h := ?_)
              simp only [Act.put, List.setIfInBounds_toArray, List.set_cons_zero, List.set_cons_succ]
              refine takeT 32 hH (hy := .inl ⟨by rfl, by (intro w hSw; try obtain ⟨u0, u1, u2, u3, u4, u5, u6, u7, u8, u9, u10, u11, u12, u13, u14, u15, u16, u17, u18, u19, u20, u21, u22, u23, u24, u25, u26, u27, u28, u29, u30, u31, u32, u33, u34, u35, u36, u37, u38, u39, u40, u41⟩ := hSw); (go_simp; try rfl)⟩) (h := ?_)
              simp only [Act.put, List.setIfInBounds_toArray, List.set_cons_zero, List.set_cons_succ]
              refine takeT 33 hH (hy := .inl ⟨by rfl, by (intro w hSw; try obtain ⟨u0, u1, u2, u3, u4, u5, u6, u7, u8, u9, u10, u11, u12, u13, u14, u15, u16, u17, u18, u19, u20, u21, u22, u23, u24, u25, u26, u27, u28, u29, u30, u31, u32, u33, u34, u35, u36, u37, u38, u39, u40, u41⟩ := hSw); (go_simp; try rfl)⟩) (h := ?_)
              simp only [Act.put, List.setIfInBounds_toArray, List.set_cons_zero, List.set_cons_succ]
              refine takeT 34 hH (hy := .inl ⟨by rfl, by (intro w hSw; try obtain ⟨u0, u1, u2, u3, u4, u5, u6, u7, u8, u9, u10, u11, u12, u13, u14, u15, u16, u17, u18, u19, u20, u21, u22, u23, u24, u25, u26, u27, u28, u29, u30, u31, u32, u33, u34, u35, u36, u37, u38, u39, u40, u41⟩ := hSw); (go_simp; try rfl)⟩) (h := ?_)
              simp only [Act.put, List.setIfInBounds_toArray, List.set_cons_zero, List.set_cons_succ]
              refine takeT 35 hH (hy := .inl ⟨by rfl, by (intro w hSw; try obtain ⟨u0, u1, u2, u3, u4, u5, u6, u7, u8, u9, u10, u11, u12, u13, u14, u15, u16, u17, u18, u19, u20, u21, u22, u23, u24, u25, u26, u27, u28, u29, u30, u31, u32, u33, u34, u35, u36, u37, u38, u39, u40, u41⟩ := hSw); (go_simp; try rfl)⟩) (h := ?_)
              simp only [Act.put, List.setIfInBounds_toArray, List.set_cons_zero, List.set_cons_succ]
              refine takeT 36 hH (hy := .inl ⟨by rfl, by (intro w hSw; try obtain ⟨u0, u1, u2, u3, u4, u5, u6, u7, u8, u9, u10, u11, u12, u13, u14, u15, u16, u17, u18, u19, u20, u21, u22, u23, u24, u25, u26, u27, u28, u29, u30, u31, u32, u33, u34, u35, u36, u37, u38, u39, u40, u41⟩ := hSw); (go_simp; try rfl)⟩) (h := ?_)
              simp only [Act.put, List.setIfInBounds_toArray, List.set_cons_zero, List.set_cons_succ]
              refine takeT 37 hH (hy := .inl ⟨by rfl, by (intro w hSw; try obtain ⟨u0, u1, u2, u3, u4, u5, u6, u7, u8, u9, u10, u11, u12, u13, u14, u15, u16, u17, u18, u19, u20, u21, u22, u23, u24, u25, u26, u27, u28, u29, u30, u31, u32, u33, u34, u35, u36, u37, u38, u39, u40, u41⟩ := hSw); (go_simp; try rfl)⟩) (h := ?_)
              simp only [Act.put, List.setIfInBounds_toArray, List.set_cons_zero, List.set_cons_succ]
              refine takeT 38 hH (hy := .inl ⟨by rfl, by (intro w hSw; try obtain ⟨u0, u1, u2, u3, u4, u5, u6, u7, u8, u9, u10, u11, u12, u13, u14, u15, u16, u17, u18, u19, u20, u21, u22, u23, u24, u25, u26, u27, u28, u29, u30, u31, u32, u33, u34, u35, u36, u37, u38, u39, u40, u41⟩ := hSw); (go_simp; try rfl)⟩) (h := ?_)
              simp only [Act.put, List.setIfInBounds_toArray, List.set_cons_zero, List.set_cons_succ]
              refine takeT 39 hH (hy := .inl ⟨by rfl, by (intro w hSw; try obtain ⟨u0, u1, u2, u3, u4, u5, u6, u7, u8, u9, u10, u11, u12, u13, u14, u15, u16, u17, u18, u19, u20, u21, u22, u23, u24, u25, u26, u27, u28, u29, u30, u31, u32, u33, u34, u35, u36, u37, u38, u39, u40, u41⟩ := hSw); (go_simp; try rfl)⟩) (h := ?_)
              simp only [Act.put, List.setIfInBounds_toArray, List.set_cons_zero, List.set_cons_succ]
              refine takeT 40 hH (hy := .inl ⟨by rfl, by (intro w hSw; try obtain ⟨u0, u1, u2, u3, u4, u5, u6, u7, u8, u9, u10, u11, u12, u13, u14, u15, u16, u17, u18, u19, u20, u21, u22, u23, u24, u25, u26, u27, u28, u29, u30, u31, u32, u33, u34, u35, u36, u37, u38, u39, u40, u41⟩ := hSw); (go_simp; try rfl)⟩) (h := ?_)
              simp only [Act.put, List.setIfInBounds_toArray, List.set_cons_zero, List.set_cons_succ]
              refine takeT 41 hH (hy := .inl ⟨by rfl, by (intro w hSw; try obtain ⟨u0, u1, u2, u3, u4, u5, u6, u7, u8, u9, u10, u11, u12, u13, u14, u15, u16, u17, u18, u19, u20, u21, u22, u23, u24, u25, u26, u27, u28, u29, u30, u31, u32, u33, u34, u35, u36, u37, u38, u39, u40, u41⟩ := hSw); (go_simp; try rfl)⟩) (h := ?_)
              simp only [Act.put, List.setIfInBounds_toArray, List.set_cons_zero, List.set_cons_succ]
              refine wpAnyH_done (by kernel_rfl) ?_ _
              as_aux_lemma =>
                go_wp2_with fail
                go_meet
                exact ⟨rfl, T1.below⟩
          case rest =>
            obtain ⟨rfl, hB⟩ := hcut
            replace hB := Lib.hid hB
            go_wp2
            go_ret
            exact ⟨rfl, hB.out⟩
set_option maxRecDepth 100000 in
theorem lifted (os : Os) (started : os.Started) (H : Type) (enc : TypeId × Value → H) :
    ReturnsInHanded {} Try.checked os 7 .any (Rows.objectFindsSpec.pre6 enc Try.prog Try.f7 Rows.objectFindsRow.domain false) (Rows.objectFindsSpec.post enc Try.prog Try.f7 false true false false) := by
  refine law_lift (C := Try.checked) own started (by kernel_rfl) Try.func7
    (ChangeSpec.witness6 (enc := enc) (C := Try.checked) false ⟨#[], #[.agg #[.slice none 0 0, .slice none 0 0], .int .i64 0, .int .i64 0], []⟩ 8 (by kernel_rfl) (by kernel_rfl) (by kernel_rfl) (by kernel_rfl))
    (by kernel_rfl) (by kernel_rfl) rfl (fun ds h => by
      match ds, h with
      | [d1, d2, d3], _ => exact ⟨rfl, rfl, rfl⟩) rfl Try.underlying4 ?_
  intro W base args ds ps hval hA hlt hwt hsh
  rw [Try.params7] at hA hval
  obtain ⟨v0, vs0, d0, ds0, p0, q0, hargs, rfl, rfl, h0, r0⟩ := trodAll_cons hA
  obtain ⟨v1, vs1, d1, ds1, p1, q1, rfl, rfl, rfl, h1, r1⟩ := trodAll_cons r0
  obtain ⟨v2, vs2, d2, ds2, p2, q2, rfl, rfl, rfl, h2, r2⟩ := trodAll_cons r1
  obtain ⟨rfl, rfl, rfl⟩ := trodAll_nil r2
  obtain rfl : args = #[v0, v1, v2] := by cases args; simp_all
  obtain ⟨cs0, rfl, hsz0⟩ := okWide_struct Try.underlying25 (hval 0 25 v0 rfl rfl)
  obtain ⟨fuel0, hf0⟩ := h0
  obtain ⟨sB0, sH0, e0, sI0⟩ := open_some (cs := cs0.toList) hf0
  obtain rfl : cs0 = [sB0, sH0].toArray := by rw [← e0]
  obtain ⟨a1, rfl, rfl, rfl, w1⟩ := open_int Try.underlying3 (hval 1 3 v1 rfl rfl) h1
  obtain ⟨a2, rfl, rfl, rfl, w2⟩ := open_int Try.underlying3 (hval 2 3 v2 rfl rfl) h2
  -- WALK
  exact walk W _ _ sI0 a1 a2
theorem proved : Rows.ObjectFindsSaid :=
  OpenClaim.holds_of_wide 7 Try.f7 rfl rfl rfl rfl rfl rfl rfl ⟨rfl, rfl, rfl, rfl, rfl⟩ rfl rfl rfl rfl rfl (by kernel_rfl) Try.func7 (by kernel_rfl)
    (of_decide_eq_true (by kernel_rfl)) (by unfold Func.isWrapper; first | (rw [if_pos (by decide +kernel)]; kernel_rfl) | (rw [if_neg (by decide +kernel)]; exact ⟨rfl, rfl⟩))
    (fun os started H enc _ => lifted os started H enc)
#print axioms proved
end Go.Proofs.Ytkocenlglodklaa.objectFinds
