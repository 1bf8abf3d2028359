/-
  HeapAlone: for any calls and one more of bulk at most 1048576 the law returns true: what is done to an object changes no other one. Condition: the bulk (the second form).
-/
import Derived.Test.YtoancpjlkhijiaaPre2
namespace Go.Proofs.Ytoancpjlkhijiaa.heapAlone
set_option linter.unusedSimpArgs false
open Go.ChangeShapes Go.WideShapes Go.ChangeAt Go.RowKit
set_option linter.unusedVariables false
theorem getL_set_ne {l : List (Int × ObjM)} {n m : Int} (h : m ≠ n) (o : ObjM) : getL (l.map fun p => if p.1 = n then (n, o) else p) m = getL l m := by
  induction l with
  | nil => rfl
  | cons p r ih =>
    have e0 : ∀ (q : Int × ObjM) (r : List (Int × ObjM)), getL (q :: r) m = if q.1 = m then some q.2 else getL r m := fun q r => by
      by_cases e : q.1 = m <;> simp [getL, e]
    rw [List.map_cons, e0, e0, ih]
    by_cases e : p.1 = n
    · rw [if_pos e, if_neg (fun h' => h (h'.symm)), if_neg (fun h' => h (by rw [← h', e]))]
    · rw [if_neg e]
theorem doo_cases (H : HeapM) (o : OpM) (h1 : 2 ≤ o.d) (h2 : o.d ≤ 6) : H.doo o = H ∨ ∃ ob o', H.of o.v = some ob ∧ H.doo o = H.set o.v.n o' := by
  unfold HeapM.doo
  rw [if_neg (by omega)]
  split
  · unfold HeapM.setNum
    split
    · rename_i ob g; exact .inr ⟨ob, _, g, rfl⟩
    · exact .inl rfl
  split
  · unfold HeapM.setAt
    split
    · rename_i ob g; split
      · exact .inr ⟨ob, _, g, rfl⟩
      · exact .inl rfl
    · exact .inl rfl
  split
  · unfold HeapM.replace
    split
    · rename_i ob g; split
      · exact .inr ⟨ob, _, g, rfl⟩
      · exact .inl rfl
    · exact .inl rfl
  split
  · unfold HeapM.put
    split
    · rename_i ob g; split
      · exact .inr ⟨ob, _, g, rfl⟩
      · exact .inl rfl
    · exact .inl rfl
  split
  · unfold HeapM.del
    split
    · rename_i ob g; exact .inr ⟨ob, _, g, rfl⟩
    · exact .inl rfl
  · omega
theorem doo_keys (H : HeapM) (o : OpM) (h1 : 2 ≤ o.d) (h2 : o.d ≤ 6) : (H.doo o).objs.map (·.1) = H.objs.map (·.1) := by
  rcases doo_cases H o h1 h2 with e | ⟨ob, o', g, e⟩
  · rw [e]
  · rw [e]; exact map_set_keys _ _ _
theorem doo_other (H : HeapM) (o : OpM) (h1 : 2 ≤ o.d) (h2 : o.d ≤ 6) {n : Int} (hn : ¬ (o.v.kind = 4 ∧ o.v.n = n)) : getL (H.doo o).objs n = getL H.objs n := by
  rcases doo_cases H o h1 h2 with e | ⟨ob, o', g, e⟩
  · rw [e]
  · rw [e]
    exact getL_set_ne (fun e' => hn ⟨(HeapM.of_some g).1, e'.symm⟩) o'
/-- What has been told of the first k objects. -/
def Told (H : HeapM) (L : List Int) (I : List Value) (Z M : List Int) (T : List Res) (k : Nat) : Prop :=
  I.length = k ∧ Z = (L.take k).map (sizeN H) ∧ M = (L.take k).map (numN H) ∧ ∀ j, j < k → ∃ ia ic n, L[j]? = some n ∧ I[j]? = some (.slice ia (H.itemsN n).length ic) ∧ valsR (.slice ia (H.itemsN n).length ic) (H.itemsN n) ∈ T
theorem Told.more {H : HeapM} {L : List Int} {I : List Value} {Z M : List Int} {T : List Res} {k : Nat} (h : Told H L I Z M T k) {n : Int} (hn : L[k]? = some n) (ia : Option Addr) (ic : Nat) :
    Told H L (I ++ [.slice ia (H.itemsN n).length ic]) (Z ++ [sizeN H n]) (M ++ [numN H n]) (valsR (.slice ia (H.itemsN n).length ic) (H.itemsN n) :: T) (k + 1) := by
  obtain ⟨h1, h2, h4, h3⟩ := h
  have ht : L.take (k + 1) = L.take k ++ [n] := by rw [List.take_add_one, hn]; rfl
  refine ⟨by simp [h1], by rw [ht, h2]; simp, by rw [ht, h4]; simp, fun j hj => ?_⟩
  by_cases e : j = k
  · subst e
    refine ⟨ia, ic, n, hn, ?_, by simp⟩
    rw [List.getElem?_append_right (by omega), h1]; simp
  · obtain ⟨ia', ic', n', k1, k2, k4⟩ := h3 j (by omega)
    refine ⟨ia', ic', n', k1, ?_, by simp [k4]⟩
    rw [List.getElem?_append_left (by omega)]; exact k2
theorem seesO_alloc {w : World} {s : Value} {l : List OpM} (h : SeesO w s l) (o : Obj) : SeesO (w.alloc o) s l := seesO_below h (belowAlloc w o)
set_option maxRecDepth 100000 in
set_option maxHeartbeats 1600000 in
theorem big (w : World) (s : Value) (l : List OpM) (o : OpM) (hs : SeesO w s l) (hN : opsW l ≤ 3000000) (hb : bigM l = true) :
    Calls Try.prog 10 #[s, o.val] w (LawTrue w) := by
  have M := Lib.hid (lawMade_any (w.alloc o.obj) s l (seesO_alloc hs _) hN)
  have HS := Lib.hid hs
  obtain ⟨a, ac, rfl, -, -, -, -⟩ := hs
  have HB := Lib.hid hb
  have B0 := Lib.hid (belowAlloc w o.obj)
  clear hb hN
  simp only [OpM.val, OpM.obj] at *
  go_enter Try.func10, Try.ntmps10
  go_wp2_with fail
  refine M.out.mono ?_
  rintro e w1 ⟨h, rfl, A1⟩
  have B1 := Lib.hid (Below.next B0.out A1.below B0.out.size)
  have C := big_ok w1 _ l (seesO_below HS.out B1.out)
  rw [HB.out] at C
  have C' := Lib.hid C
  clear A1 C
  go_wp2_with fail
  refine C'.out.mono ?_
  rintro e w2 ⟨rfl, q, rfl⟩
  have B2 := Lib.hid (Below.drewN B1.out q)
  obtain ⟨w2, hw2⟩ : ∃ w2, w1.drewN q = w2 := ⟨_, rfl⟩
  rw [hw2] at B2 ⊢
  clear hw2
  have C := big_ok w2 _ l (seesO_below HS.out B2.out)
  rw [HB.out] at C
  have C2 := Lib.hid C
  clear C C'
  go_wp2_with fail
  refine C2.out.mono ?_
  rintro e w3 ⟨rfl, q, rfl⟩
  have B3 := Lib.hid (Below.drewN B2.out q)
  obtain ⟨w3, hw3⟩ : ∃ w3, w2.drewN q = w3 := ⟨_, rfl⟩
  rw [hw3] at B3 ⊢
  clear hw3 C2
  go_wp2
  go_ret
  exact ⟨rfl, B3.out⟩
set_option maxRecDepth 100000 in
set_option maxHeartbeats 1600000 in
theorem far (w : World) (s : Value) (l : List OpM) (o : OpM) (hs : SeesO w s l) (hN : opsW l ≤ 3000000) (hb : bigM l = false) (hE : 60 < o.l.length ∨ o.d < 2 ∨ 6 < o.d) :
    Calls Try.prog 10 #[s, o.val] w (LawTrue w) := by
  have M := Lib.hid (lawMade_any (w.alloc o.obj) s l (seesO_alloc hs _) hN)
  have HS := Lib.hid hs
  have HO := Lib.hid (opBlk (heapAllocNew w o.obj))
  have hzz : w.heap.size < (w.alloc o.obj).heap.size := by simp
  obtain ⟨a, ac, rfl, -, -, -, -⟩ := hs
  have HB := Lib.hid hb
  have B0 := Lib.hid (belowAlloc w o.obj)
  have hcase : ((60 : Int) < o.l.length) ∨ ((o.l.length : Int) ≤ 60 ∧ o.d < 2) ∨ ((o.l.length : Int) ≤ 60 ∧ 2 ≤ o.d ∧ 6 < o.d) := by omega
  have HA1 : Hid (∀ w1, Below (w.alloc o.obj).heap.size (w.alloc o.obj) w1 → w1.cell? ⟨w.heap.size, 0, none⟩ = some (.int .i64 o.d) ∧ w1.cell? ⟨w.heap.size, 15, none⟩ = some (.slice o.a o.l.length o.cap)) := Lib.hid fun w1 h1 => ⟨cellBelow HO.out.1.1 h1, cellBelow HO.out.2.2.2.2 h1⟩
  clear hb hN hE hzz
  simp only [OpM.val, OpM.obj] at *
  rcases hcase with h1 | ⟨h1, h2⟩ | ⟨h1, h2, h3⟩
  all_goals
    go_enter Try.func10, Try.ntmps10
    go_wp2_with fail
    refine M.out.mono ?_
    rintro e w1 ⟨h, rfl, A1⟩
    have B1 := Lib.hid (Below.next B0.out A1.below B0.out.size)
    have C := big_ok w1 _ l (seesO_below HS.out B1.out)
    rw [HB.out] at C
    have C' := Lib.hid C
    have AB := Lib.hid A1.below
    clear A1 C
    go_wp2_with fail
    refine C'.out.mono ?_
    rintro e w2 ⟨rfl, q, rfl⟩
    have B2 := Lib.hid (Below.drewN B1.out q)
    obtain ⟨c0, c15⟩ := HA1.out _ (Below.drewN AB.out q)
    obtain ⟨w2, hw2⟩ : ∃ w2, w1.drewN q = w2 := ⟨_, rfl⟩
    rw [hw2] at B2 c0 c15 ⊢
    clear hw2
    have C := big_ok w2 _ l (seesO_below HS.out B2.out)
    rw [HB.out] at C
    have C2 := Lib.hid C
    clear C C'
    go_wp2_with fail
    refine C2.out.mono ?_
    rintro e w3 ⟨rfl, q, rfl⟩
    have B3 := Lib.hid (Below.drewN B2.out q)
    obtain ⟨w3, hw3⟩ : ∃ w3, w2.drewN q = w3 := ⟨_, rfl⟩
    rw [hw3] at B3 ⊢
    clear hw3 C2 c0 c15
    go_wp2
    go_ret
    exact ⟨rfl, B3.out⟩
set_option maxRecDepth 100000 in
set_option maxHeartbeats 6400000 in
theorem small (w : World) (s : Value) (l : List OpM) (o : OpM) (hs : SeesO w s l) (hin : o.In w) (hN : opsW l ≤ 3000000) (hb : bigM l = false) (hE : o.l.length ≤ 60) (hd1 : 2 ≤ o.d) (hd2 : o.d ≤ 6) :
    Calls Try.prog 10 #[s, o.val] w (LawTrue w) := by
  have M := Lib.hid (lawMade_any (w.alloc o.obj) s l (seesO_alloc hs _) hN)
  have HS := Lib.hid hs
  have HG := Lib.hid (And.intro ((madeM_goodW l).more hN) (madeM_kinds l))
  have S0 := Lib.hid ((Sep.start (Below.refl w.heap.size w)).alloc o.obj)
  obtain ⟨a, ac, rfl, -, -, -, -⟩ := hs
  have HB := Lib.hid hb
  have HO : Hid (∀ (Rs : List Res) (i : Nat) W, Rs[i]? = some (boxR w.heap.size o.obj) → Sep w Rs W → W.heap[w.heap.size]? = some o.obj) := Lib.hid fun Rs i W hi S => S.box i hi
  have hE' : (o.l.length : Int) ≤ 60 := by omega
  have HIN := Lib.hid (And.intro hin (And.intro hE (And.intro hd1 hd2)))
  clear hb hN hE hin
  obtain ⟨ob, hob⟩ : ∃ ob, o.obj = ob := ⟨_, rfl⟩
  have HOB := Lib.hid hob
  obtain ⟨ov, hov⟩ : ∃ ov, o.val = ov := ⟨_, rfl⟩
  have HOV := Lib.hid hov
  rw [hob] at M S0 HO
  clear hob hov
  have hob : ob = .cells #[.int .i64 o.d, .int .i64 o.kd, .int .i64 o.i, .int .i64 o.j, .string o.name, .int .i64 o.n, .int .i64 o.v.kind, .int .i64 o.v.n, .string o.v.s, .int .i64 o.k.kind, .int .i64 o.k.n, .string o.k.s, .int .i64 o.x.kind, .int .i64 o.x.n, .string o.x.s, .slice o.a o.l.length o.cap] 51 := HOB.out.symm
  have M' := M
  rw [hob] at M'
  have HOB2 := Lib.hid hob
  clear hob M
  simp only [OpM.val]
  go_enter Try.func10, Try.ntmps10
  go_wp2_with fail
  refine M'.out.mono ?_
  rintro e w1 ⟨h, rfl, A1⟩
  rw [← HOB2.out] at A1
  have S1 := Lib.hid (Sep.addHeap S0.out A1)
  generalize madeM l = H at *
  have C := big_ok w1 _ l (seesO_below HS.out S1.out.below)
  rw [HB.out] at C
  have C' := Lib.hid C
  clear A1 C M' S0
  go_wp2_with fail
  refine C'.out.mono ?_
  rintro e w2 ⟨rfl, q, rfl⟩
  have S2 := S1.out.drewN q
  have hbk := opBlk (by rw [HOB.out]; exact HO.out _ 1 _ rfl S2)
  obtain ⟨⟨c0, -⟩, -, -, -, c15⟩ := hbk
  replace S2 := Lib.hid S2
  obtain ⟨w2, hw2⟩ : ∃ w2, w1.drewN q = w2 := ⟨_, rfl⟩
  rw [hw2] at S2 c0 c15 ⊢
  clear hw2 C' S1
  go_wp2_with fail
  refine (S2.out.all 0 rfl HG.out.1 (by omega)).mono ?_
  rintro e w3 ⟨rv, rfl, S3, hb3⟩
  have hnum := HeapM.keys_nums HG.out.1
  have hok := hnum.ok HG.out.1 (by omega)
  have hkeys := doo_keys H o hd1 hd2
  have hlen : (H.objs.map (·.1)).length ≤ 3000000 := by have := HG.out.1.len; simpa using this
  have HAL := Lib.hid (fun (Rs : List Res) (i : Nat) W (hi : Rs[i]? = some (heapR h (H.doo o))) (S : Sep w Rs W) => (by
      have := S.all i hi ((HG.out.1.doo o).more (show 3000000 + o.l.length + 2 ≤ 4000000 by omega)) (by omega)
      rw [hkeys] at this; exact this : Calls Try.prog 29 #[.pointer (some ⟨h, 0, none⟩)] W fun e W' => ∃ sv, e = .returned sv ∧ Sep w (numsR sv (H.objs.map (·.1)) :: Rs) W' ∧ Below W.heap.size W W'))
  generalize H.objs.map (·.1) = L at *
  obtain ⟨la, lc, rfl⟩ := (S3.row 0 rfl).form
  have HL := Lib.hid (And.intro hok hlen)
  have b0 : (L.length : Int) ≤ 3000000 := by omega
  have S4 := S3.madeSls
  have S5 := S4.madeInts
  have S6 := S5.madeNums
  rw [World.size_alloc, World.size_alloc] at S6
  replace S6 := Lib.hid S6
  clear hnum hok hkeys hlen S3 S4 S5 S2 hb3 c0 c15
  go_wp2
  go_loopw [7, 8, 9, 10] (fun iv zv nv i wr => ∃ (k : Nat) (I : List Value) (Z M : List Int) (T : List Res), k ≤ L.length ∧ i = .int .i64 k ∧ Told H L I Z M T k ∧ Sep w ([numsR nv M, intsR zv Z, slsR iv I, numsR (.slice la L.length lc) L, heapR h H, boxR w.heap.size ob] ++ T) wr) (fun _ _ _ i _ => L.length - (intOf i).toNat)
  case atStart => exact ⟨0, [], [], [], [], by omega, rfl, ⟨rfl, rfl, rfl, by simp⟩, S6.out⟩
  case round =>
    clear S6
    obtain ⟨k, I, Z, M, T, hk, rfl, hT, S6⟩ := hrel
    obtain ⟨na, nc, rfl⟩ := (S6.row 0 rfl).form
    obtain ⟨za, zc, rfl⟩ := (S6.row 1 rfl).form
    obtain ⟨ia, ic, rfl⟩ := (S6.row 2 rfl).form
    by_cases hlt : k < L.length
    · obtain ⟨n, hn⟩ : ∃ n, L[k]? = some n := ⟨L[k], by simp [hlt]⟩
      have hkn := HL.out.1 n (List.mem_of_getElem? hn)
      obtain ⟨g, rfl⟩ := S6.numAddr 3 rfl hlt
      have HC : Hid (∀ (A B C : Res) (Rs : List Res) W, Sep w (A :: B :: C :: numsR (.slice (some ⟨g, 0, none⟩) L.length lc) L :: Rs) W → W.cell? ⟨g, k, none⟩ = some (.int .i64 n)) := Lib.hid fun A B C Rs W S => S.numCell 3 rfl hn
      have c0 := HC.out _ _ _ _ _ S6
      have hil : (k : Int) < L.length := by omega
      have HT1 := Lib.hid (hT.more hn)
      have HIK := Lib.hid (show I.length + 1 ≤ 17592186044 ∧ Z.length + 1 ≤ 17592186044 ∧ M.length + 1 ≤ 17592186044416 by
        have h1 := hT.1; have h2 := hT.2.1; have h3 := hT.2.2.1
        have := HL.out.2
        rw [h2, h3]; simp only [List.length_map, List.length_take]; omega)
      have HLT := Lib.hid hlt
      replace S6 := Lib.hid S6
      clear hn hT hlt
      go_wp2_with fail
      refine (ref_ok wr n).mono ?_
      rintro e w4 ⟨rfl, hb1⟩
      have R := (S6.out.later hb1).items 4 rfl HG.out.1 (by omega) (V.ref n hkn)
      rw [HeapM.items_ref] at R
      replace R := Lib.hid R
      simp only [V.val, V.ref] at R
      clear hb1 c0 S6
      go_wp2_with fail
      refine R.out.mono ?_
      rintro e w5 ⟨sv, rfl, S7, hb2⟩
      obtain ⟨sa, sc, rfl⟩ := (S7.row 0 rfl).form
      generalize H.itemsN n = X at *
      replace S7 := Lib.hid S7
      clear R hb2
      go_wp2_with (at_builtin; refine wpList_push_sl rfl _ _ rfl (S7.out.later (belowAlloc _ _)) 3 rfl rfl _ _ _ _ rfl (cell_of_row _ _ _ _ _ _ (heapAllocNew _ _)) HIK.out.1 ?_)
      intro va vc w6 S8
      have S9 := Sep.behind (A := [numsR (.slice na M.length nc) M, intsR (.slice za Z.length zc) Z, slsR (.slice va (I.length + 1) vc) (I ++ [.slice sa X.length sc]), numsR (.slice (some ⟨g, 0, none⟩) L.length lc) L, heapR h H, boxR w.heap.size ob]) S8
      have c0 := HC.out _ _ _ _ _ S9
      clear S7 S8
      replace S9 := Lib.hid S9
      go_wp2_with fail
      refine (ref_ok w6 n).mono ?_
      rintro e w7 ⟨rfl, hb1⟩
      have R := (S9.out.later hb1).size 4 rfl (V.ref n hkn)
      rw [HeapM.size_ref] at R
      replace R := Lib.hid R
      simp only [V.val, V.ref] at R
      generalize sizeN H n = z at *
      clear hb1 c0 S9
      go_wp2_with fail
      refine R.out.mono ?_
      rintro e w8 ⟨rfl, S10, hb2⟩
      replace S10 := Lib.hid S10
      clear R hb2
      go_wp2_with (at_builtin; refine wpList_push_int rfl _ _ rfl (S10.out.later (belowAlloc _ _)) 1 rfl rfl _ _ rfl (cell_of_row _ _ _ _ _ _ (heapAllocNew _ _)) HIK.out.2.1 ?_)
      intro vb vd w9 S11
      have c0 := HC.out _ _ _ _ _ S11
      clear S10
      replace S11 := Lib.hid S11
      go_wp2_with fail
      refine (ref_ok w9 n).mono ?_
      rintro e w10 ⟨rfl, hb1⟩
      have R := (S11.out.later hb1).num 4 rfl (V.ref n hkn)
      rw [HeapM.num_ref] at R
      replace R := Lib.hid R
      simp only [V.val, V.ref] at R
      generalize numN H n = u at *
      clear hb1 c0 S11
      go_wp2_with fail
      refine R.out.mono ?_
      rintro e w11 ⟨rfl, S12, hb2⟩
      replace S12 := Lib.hid S12
      clear R hb2
      go_wp2_with (at_builtin; refine wpList_push_sep rfl _ _ rfl (S12.out.later (belowAlloc _ _)) 0 rfl rfl _ _ rfl (cell_of_row _ _ _ _ _ _ (heapAllocNew _ _)) HIK.out.2.2 ?_)
      intro ve vf w12 S13
      replace S13 := Lib.hid S13
      clear S12
      go_wp2
      exact ⟨⟨k + 1, _, _, _, _, by have := HLT.out; omega, by go_num, HT1.out sa sc, S13.out⟩, by have := HLT.out; simp [intOf]; omega⟩
    · obtain rfl : k = L.length := by omega
      obtain ⟨hT1, hT2, hT3, hT4⟩ := hT
      rw [List.take_length] at hT2 hT3
      have HT1 := Lib.hid (And.intro hT1 (And.intro hT2 (And.intro hT3 hT4)))
      have hbk := opBlk (by rw [HOB.out]; exact HO.out _ 5 _ rfl S6)
      obtain ⟨⟨c0, c1, c2, c3, c4, c5⟩, ⟨c6, c7, c8⟩, ⟨c9, c10, c11⟩, ⟨c12, c13, c14⟩, c15⟩ := hbk
      obtain ⟨LL, A, back, -⟩ := S6.viaHAt 4 rfl
      have D := Lib.hid (A.doo HG.out.1 o (HIN.out.1.1.keep fun p v hp => cellBelow hp S6.below) (fun g o n c e h0 => by
        rcases HIN.out.1.2 g o n c e h0 with h | ⟨_, h⟩
        · exact .inl h
        · cases h) (by have := HIN.out.2.1; omega))
      have BK := Lib.hid back
      simp only [OpM.val] at D
      clear hT1 hT2 hT3 hT4 hlt S6 A back
      go_wp2_with fail
      refine D.out.mono ?_
      rintro e w4 ⟨rfl, A4⟩
      have S7 := BK.out _ _ A4
      replace S7 : Sep w ([numsR (.slice na M.length nc) M, intsR (.slice za Z.length zc) Z, slsR (.slice ia I.length ic) I, numsR (.slice la L.length lc) L, heapR h (H.doo o), boxR w.heap.size ob] ++ T) w4 := S7
      replace S7 := Lib.hid S7
      clear D A4 BK c0 c1 c2 c3 c4 c5 c6 c7 c8 c9 c10 c11 c12 c13 c14 c15
      go_wp2
      go_loopw [11] (fun i wr => ∃ k : Nat, k ≤ L.length ∧ i = .int .i64 k ∧ Sep w ([numsR (.slice na M.length nc) M, intsR (.slice za Z.length zc) Z, slsR (.slice ia I.length ic) I, numsR (.slice la L.length lc) L, heapR h (H.doo o), boxR w.heap.size ob] ++ T) wr) (fun i _ => L.length - (intOf i).toNat)
      case atStart => exact ⟨0, by omega, rfl, S7.out⟩
      case round =>
        clear S7
        obtain ⟨k, hk, rfl, S8⟩ := hrel
        by_cases hlt : k < L.length
        · obtain ⟨ja, jc, n, hn, hI, mI⟩ := HT1.out.2.2.2 k hlt
          have hkn := HL.out.1 n (List.mem_of_getElem? hn)
          obtain ⟨g, rfl⟩ := S8.numAddr 3 rfl hlt
          have hIl := HT1.out.1
          have hZ : Z[k]? = some (sizeN H n) := by rw [HT1.out.2.1, List.getElem?_map, hn]; rfl
          have hM : M[k]? = some (numN H n) := by rw [HT1.out.2.2.1, List.getElem?_map, hn]; rfl
          have hZl : Z.length = L.length := by rw [HT1.out.2.1]; simp
          have hMl : M.length = L.length := by rw [HT1.out.2.2.1]; simp
          obtain ⟨g2, rfl⟩ := S8.rowAddr 2 rfl (show k < I.length by omega)
          obtain ⟨g3, rfl⟩ := S8.rowAddr 1 rfl (show k < Z.length by omega)
          obtain ⟨g4, rfl⟩ := S8.rowAddr 0 rfl (show k < M.length by omega)
          have c0 := S8.numCell 3 rfl hn
          have hil : (k : Int) < L.length := by omega
          have hk0 : (0 : Int) ≤ k := by omega
          have hi1 : (k : Int) < I.length := by omega
          have hi2 : (k : Int) < Z.length := by omega
          have hi3 : (k : Int) < M.length := by omega
          obtain ⟨base, hbase⟩ : ∃ b, b = [numsR (.slice (some ⟨g4, 0, none⟩) M.length nc) M, intsR (.slice (some ⟨g3, 0, none⟩) Z.length zc) Z, slsR (.slice (some ⟨g2, 0, none⟩) I.length ic) I, numsR (.slice (some ⟨g, 0, none⟩) L.length lc) L, heapR h (H.doo o), boxR w.heap.size ob] ++ T := ⟨_, rfl⟩
          have HBS := Lib.hid hbase
          have GS := (HG.out.1.doo o).more (show 3000000 + o.l.length + 2 ≤ 4000000 by have := HIN.out.2.1; omega)
          have HCC : Hid (∀ (B : Res) W, Sep w (B :: base) W → W.cell? ⟨g2, k, none⟩ = some (.slice ja (H.itemsN n).length jc) ∧ W.cell? ⟨g3, k, none⟩ = some (.int .i64 (sizeN H n)) ∧ W.cell? ⟨g4, k, none⟩ = some (.int .i64 (numN H n))) := Lib.hid fun B W S => by
            rw [hbase] at S
            have k1 := (S.row 3 rfl).cell (f := slCell) (m := 1) (fun _ => rfl) rfl hI (j := 0) (u := .slice ja (H.itemsN n).length jc) rfl
            rw [Nat.mul_one, Nat.add_zero] at k1
            exact ⟨k1, S.intCell 2 rfl hZ, S.numCell 1 rfl hM⟩
          have HO6 : Hid (∀ (B : Res) W, Sep w (B :: base) W → W.cell? ⟨w.heap.size, 6, none⟩ = some (.int .i64 o.v.kind) ∧ W.cell? ⟨w.heap.size, 7, none⟩ = some (.int .i64 o.v.n)) := Lib.hid fun B W S => by
            rw [hbase] at S
            obtain ⟨-, ⟨x6, x7, -⟩, -⟩ := opBlk (by rw [HOB.out]; exact HO.out _ 6 _ rfl S)
            exact ⟨x6, x7⟩
          have HMB : Hid (valsR (.slice ja (H.itemsN n).length jc) (H.itemsN n) ∈ base) := Lib.hid (by rw [hbase]; exact List.mem_append_right _ mI)
          have HKi := Lib.hid (fun (B : Res) W (S : Sep w (B :: base) W) => (show Sep w (B :: ([numsR (.slice (some ⟨g4, 0, none⟩) M.length nc) M, intsR (.slice (some ⟨g3, 0, none⟩) Z.length zc) Z, slsR (.slice (some ⟨g2, 0, none⟩) I.length ic) I, numsR (.slice (some ⟨g, 0, none⟩) L.length lc) L, heapR h (H.doo o), boxR w.heap.size ob] ++ T)) W from hbase ▸ S).items 5 rfl GS (by omega) (V.ref n hkn))
          have HKs := Lib.hid (fun (B : Res) W (S : Sep w (B :: base) W) => (show Sep w (B :: ([numsR (.slice (some ⟨g4, 0, none⟩) M.length nc) M, intsR (.slice (some ⟨g3, 0, none⟩) Z.length zc) Z, slsR (.slice (some ⟨g2, 0, none⟩) I.length ic) I, numsR (.slice (some ⟨g, 0, none⟩) L.length lc) L, heapR h (H.doo o), boxR w.heap.size ob] ++ T)) W from hbase ▸ S).size 5 rfl (V.ref n hkn))
          have HKn := Lib.hid (fun (B : Res) W (S : Sep w (B :: base) W) => (show Sep w (B :: ([numsR (.slice (some ⟨g4, 0, none⟩) M.length nc) M, intsR (.slice (some ⟨g3, 0, none⟩) Z.length zc) Z, slsR (.slice (some ⟨g2, 0, none⟩) I.length ic) I, numsR (.slice (some ⟨g, 0, none⟩) L.length lc) L, heapR h (H.doo o), boxR w.heap.size ob] ++ T)) W from hbase ▸ S).num 5 rfl (V.ref n hkn))
          rw [← hbase] at HKi HKs HKn S8 ⊢
          have hvv : (V.ref n hkn).val = .agg #[.int .i64 4, .int .i64 n, .string ⟨#[]⟩] := rfl
          rw [hvv, HeapM.items_ref] at HKi
          rw [hvv, HeapM.size_ref] at HKs
          rw [hvv, HeapM.num_ref] at HKn
          have HOTH := Lib.hid (fun (hno : ¬ (o.v.kind = 4 ∧ o.v.n = n)) => (show (H.doo o).itemsN n = H.itemsN n ∧ sizeN (H.doo o) n = sizeN H n ∧ numN (H.doo o) n = numN H n by
            have := doo_other H o HIN.out.2.2.1 HIN.out.2.2.2 hno
            unfold HeapM.itemsN sizeN numN; rw [this]; exact ⟨rfl, rfl, rfl⟩))
          have HLT := Lib.hid hlt
          replace S8 := Lib.hid S8
          clear hn hI mI hlt hIl hZ hM hZl hMl GS hbase hvv
          go_wp2_with fail
          refine (ref_ok wr n).mono ?_
          rintro e w5 ⟨rfl, hb1⟩
          have S9 := Lib.hid ((S8.out.later hb1).alloc (valObj (V.ref n hkn)))
          have VB : Hid (∀ W, Sep w (boxR w5.heap.size (valObj (V.ref n hkn)) :: base) W → W.cell? ⟨w5.heap.size, 0, none⟩ = some (.int .i64 4) ∧ W.cell? ⟨w5.heap.size, 1, none⟩ = some (.int .i64 n) ∧ W.cell? ⟨w5.heap.size, 2, none⟩ = some (.string ⟨#[]⟩)) := Lib.hid fun W S => by
            obtain ⟨x0, x1, x2, -⟩ := valBlkO (S.box 0 rfl)
            exact ⟨x0, x1, x2⟩
          obtain ⟨o6, o7⟩ : (w5.alloc (.cells #[.int .i64 4, .int .i64 n, .string ⟨#[]⟩] 26)).cell? ⟨w.heap.size, 6, none⟩ = some (.int .i64 o.v.kind) ∧ (w5.alloc (.cells #[.int .i64 4, .int .i64 n, .string ⟨#[]⟩] 26)).cell? ⟨w.heap.size, 7, none⟩ = some (.int .i64 o.v.n) := HO6.out _ _ S9.out
          obtain ⟨x0, x1, x2⟩ : (w5.alloc (.cells #[.int .i64 4, .int .i64 n, .string ⟨#[]⟩] 26)).cell? ⟨w5.heap.size, 0, none⟩ = some (.int .i64 4) ∧ (w5.alloc (.cells #[.int .i64 4, .int .i64 n, .string ⟨#[]⟩] 26)).cell? ⟨w5.heap.size, 1, none⟩ = some (.int .i64 n) ∧ (w5.alloc (.cells #[.int .i64 4, .int .i64 n, .string ⟨#[]⟩] 26)).cell? ⟨w5.heap.size, 2, none⟩ = some (.string ⟨#[]⟩) := VB.out _ S9.out
          clear hb1 S8 c0
          by_cases hk4 : o.v.kind = 4
          · by_cases hkn2 : o.v.n = n
            · have e1 : (o.v.kind == 4) = true := by simp [hk4]
              have e2 : (o.v.n == n) = true := by simp [hkn2]
              have S9 := Lib.hid S9.out.tail
              clear hk4 hkn2 HKi HKs HKn HCC
              go_wp2
              exact ⟨⟨k + 1, by have := HLT.out; omega, by go_num, S9.out⟩, by have := HLT.out; simp [intOf]; omega⟩
            · obtain ⟨q1, q2, q3⟩ := HOTH.out (fun h => hkn2 h.2)
              have e1 : (o.v.kind == 4) = true := by simp [hk4]
              have e2 : (o.v.n == n) = false := by simpa using hkn2
              clear hk4 hkn2
              go_upto_region 29 with fail
              obtain ⟨wb, hwb⟩ : ∃ wb, w5.alloc (.cells #[.int .i64 4, .int .i64 n, .string ⟨#[]⟩] 26) = wb := ⟨_, rfl⟩
              have hwb' : w5.alloc (valObj (V.ref n hkn)) = wb := hwb
              rw [hwb'] at S9
              obtain ⟨vb, hvb⟩ : ∃ vb, w5.heap.size = vb := ⟨_, rfl⟩
              rw [hvb] at S9 VB
              clear o6 o7 x0 x1 x2
              rw [hwb, hvb]
              clear hwb hwb' hvb
              have K2 := HKi.out (boxR vb (valObj (V.ref n hkn)))
              have K3 := HKs.out (boxR vb (valObj (V.ref n hkn)))
              have K5 := HKn.out (boxR vb (valObj (V.ref n hkn)))
              rw [q1] at K2
              rw [q2] at K3
              rw [q3] at K5
              have K4 : Hid (∀ W sa sc Z ja jc, Sep w (valsR (.slice sa Z.length sc) Z :: boxR vb (valObj (V.ref n hkn)) :: base) W → valsR (.slice ja Z.length jc) Z ∈ base → Calls Try.prog 16 #[.slice sa Z.length sc, .slice ja Z.length jc] W fun e w1 => e = .returned (.bool true) ∧ Sep w (boxR vb (valObj (V.ref n hkn)) :: base) w1) := Lib.hid fun W sa sc Z ja jc S hm => by
                refine (same_vals W _ _ Z Z (S.row 0 rfl).sees' (S.rowMem (List.mem_cons_of_mem _ (List.mem_cons_of_mem _ hm))).sees').mono fun e w1 ⟨h1, q, h2⟩ => ⟨by rw [h1]; simp, by rw [h2]; exact S.tail.drewN q⟩
              have KK := fun W S => And.intro (VB.out W S) (HCC.out _ W S)
              generalize H.itemsN n = X at *
              generalize sizeN H n = z at *
              generalize numN H n = u at *
              replace K2 := Lib.hid K2
              replace K3 := Lib.hid K3
              replace K5 := Lib.hid K5
              replace KK := Lib.hid KK
              have hzz : (z != z) = false := by simp
              have huu : (u != u) = false := by simp
              clear q1 q2 q3 HOTH HKi HKs HKn HCC HO6
              go_cut [138] (fun s138 wx => s138 = .bool false ∧ Sep w base wx)
              case first =>
                have T0 := S9.out
                clear S9
                go_region_held3 (fun W => (W.cell? ⟨vb, 0, none⟩ = some (.int .i64 4) ∧ W.cell? ⟨vb, 1, none⟩ = some (.int .i64 n) ∧ W.cell? ⟨vb, 2, none⟩ = some (.string ⟨#[]⟩)) ∧ W.cell? ⟨g2, k, none⟩ = some (.slice ja X.length jc) ∧ W.cell? ⟨g3, k, none⟩ = some (.int .i64 z) ∧ W.cell? ⟨g4, k, none⟩ = some (.int .i64 u))
                  (first | exact KK.out _ (by assumption) | exact KK.out _ (Sep.tail (by assumption)) | exact KK.out _ (Sep.drew (by assumption)))
                  (first
                  | (go_at_call 15; refine (K2.out _ (by first | assumption | exact Sep.drew (by assumption))).mono ?_; rintro e w6 ⟨sv, rfl, T1, -⟩; obtain ⟨sa, sc, rfl⟩ := (T1.row 0 rfl).form)
                  | (go_at_call 38; refine (K3.out _ (by first | assumption | exact Sep.drew (by assumption))).mono ?_; rintro e w6 ⟨rfl, T1, -⟩)
                  | (go_at_call 39; refine (K5.out _ (by first | assumption | exact Sep.drew (by assumption))).mono ?_; rintro e w6 ⟨rfl, T1, -⟩)
                  | (go_at_call 16; refine (K4.out _ _ _ _ _ _ (by assumption) (by exact HMB.out)).mono ?_; rintro e w6 ⟨rfl, T1⟩))
                all_goals (go_wp2_with fail; go_meet; exact ⟨rfl, Sep.tail (by assumption)⟩)
              case rest =>
                obtain ⟨rfl, S10⟩ := hcut
                replace S10 := Lib.hid S10
                clear S9 K2 K3 K4 K5 KK
                go_wp2
                exact ⟨⟨k + 1, by have := HLT.out; omega, by go_num, S10.out⟩, by have := HLT.out; simp [intOf]; omega⟩
          · obtain ⟨q1, q2, q3⟩ := HOTH.out (fun h => hk4 h.1)
            have e1 : (o.v.kind == 4) = false := by simpa using hk4
            clear hk4
            go_upto_region 29 with fail
            obtain ⟨wb, hwb⟩ : ∃ wb, w5.alloc (.cells #[.int .i64 4, .int .i64 n, .string ⟨#[]⟩] 26) = wb := ⟨_, rfl⟩
            have hwb' : w5.alloc (valObj (V.ref n hkn)) = wb := hwb
            rw [hwb'] at S9
            obtain ⟨vb, hvb⟩ : ∃ vb, w5.heap.size = vb := ⟨_, rfl⟩
            rw [hvb] at S9 VB
            clear o6 o7 x0 x1 x2
            rw [hwb, hvb]
            clear hwb hwb' hvb
            have K2 := HKi.out (boxR vb (valObj (V.ref n hkn)))
            have K3 := HKs.out (boxR vb (valObj (V.ref n hkn)))
            have K5 := HKn.out (boxR vb (valObj (V.ref n hkn)))
            rw [q1] at K2
            rw [q2] at K3
            rw [q3] at K5
            have K4 : Hid (∀ W sa sc Z ja jc, Sep w (valsR (.slice sa Z.length sc) Z :: boxR vb (valObj (V.ref n hkn)) :: base) W → valsR (.slice ja Z.length jc) Z ∈ base → Calls Try.prog 16 #[.slice sa Z.length sc, .slice ja Z.length jc] W fun e w1 => e = .returned (.bool true) ∧ Sep w (boxR vb (valObj (V.ref n hkn)) :: base) w1) := Lib.hid fun W sa sc Z ja jc S hm => by
              refine (same_vals W _ _ Z Z (S.row 0 rfl).sees' (S.rowMem (List.mem_cons_of_mem _ (List.mem_cons_of_mem _ hm))).sees').mono fun e w1 ⟨h1, q, h2⟩ => ⟨by rw [h1]; simp, by rw [h2]; exact S.tail.drewN q⟩
            have KK := fun W S => And.intro (VB.out W S) (HCC.out _ W S)
            generalize H.itemsN n = X at *
            generalize sizeN H n = z at *
            generalize numN H n = u at *
            replace K2 := Lib.hid K2
            replace K3 := Lib.hid K3
            replace K5 := Lib.hid K5
            replace KK := Lib.hid KK
            have hzz : (z != z) = false := by simp
            have huu : (u != u) = false := by simp
            clear q1 q2 q3 HOTH HKi HKs HKn HCC HO6
            go_cut [138] (fun s138 wx => s138 = .bool false ∧ Sep w base wx)
            case first =>
              have T0 := S9.out
              clear S9
              go_region_held3 (fun W => (W.cell? ⟨vb, 0, none⟩ = some (.int .i64 4) ∧ W.cell? ⟨vb, 1, none⟩ = some (.int .i64 n) ∧ W.cell? ⟨vb, 2, none⟩ = some (.string ⟨#[]⟩)) ∧ W.cell? ⟨g2, k, none⟩ = some (.slice ja X.length jc) ∧ W.cell? ⟨g3, k, none⟩ = some (.int .i64 z) ∧ W.cell? ⟨g4, k, none⟩ = some (.int .i64 u))
                (first | exact KK.out _ (by assumption) | exact KK.out _ (Sep.tail (by assumption)) | exact KK.out _ (Sep.drew (by assumption)))
                (first
                | (go_at_call 15; refine (K2.out _ (by first | assumption | exact Sep.drew (by assumption))).mono ?_; rintro e w6 ⟨sv, rfl, T1, -⟩; obtain ⟨sa, sc, rfl⟩ := (T1.row 0 rfl).form)
                | (go_at_call 38; refine (K3.out _ (by first | assumption | exact Sep.drew (by assumption))).mono ?_; rintro e w6 ⟨rfl, T1, -⟩)
                | (go_at_call 39; refine (K5.out _ (by first | assumption | exact Sep.drew (by assumption))).mono ?_; rintro e w6 ⟨rfl, T1, -⟩)
                | (go_at_call 16; refine (K4.out _ _ _ _ _ _ (by assumption) (by exact HMB.out)).mono ?_; rintro e w6 ⟨rfl, T1⟩))
              all_goals (go_wp2_with fail; go_meet; exact ⟨rfl, Sep.tail (by assumption)⟩)
            case rest =>
              obtain ⟨rfl, S10⟩ := hcut
              replace S10 := Lib.hid S10
              clear S9 K2 K3 K4 K5 KK
              go_wp2
              exact ⟨⟨k + 1, by have := HLT.out; omega, by go_num, S10.out⟩, by have := HLT.out; simp [intOf]; omega⟩
        · obtain rfl : k = L.length := by omega
          replace S8 := Lib.hid S8
          clear hlt
          go_wp2_with fail
          refine (kept_ok _).mono ?_
          rintro e w5 ⟨rfl, hb5⟩
          have S9 := Lib.hid (S8.out.later hb5)
          clear hb5 S8
          go_wp2_with fail
          refine (HAL.out _ 4 _ rfl S9.out).mono ?_
          rintro e w6 ⟨rv, rfl, S10, hb6⟩
          obtain ⟨ra, rc, rfl⟩ := (S10.row 0 rfl).form
          have C := same_numbers w6 _ _ L L (SeesN.of_slIs (S10.row 0 rfl)) (SeesN.of_slIs (S10.row 4 rfl)) ⟨HL.out.1, HL.out.1⟩
          rw [show decide (L = L) = true by simp] at C
          replace C := Lib.hid C
          replace S10 := Lib.hid S10
          clear S9 hb6
          go_wp2_with fail
          refine C.out.mono ?_
          rintro e w7 ⟨rfl, q, rfl⟩
          have B := Lib.hid (S10.out.drewN q).below
          obtain ⟨w7, hw7⟩ : ∃ w7, w6.drewN q = w7 := ⟨_, rfl⟩
          rw [hw7] at B ⊢
          clear hw7 C S10
          go_wp2
          go_ret
          exact ⟨rfl, B.out⟩
set_option maxRecDepth 100000 in
theorem lifted (os : Os) (started : os.Started) (H : Type) (enc : TypeId × Value → H) (F : Stop.Interp) :
    ReturnsInHanded {} Try.checked os 10 .any ((Rows.OpenSpec.upto Rows.heapAloneSpec).pre6 enc Try.prog Try.f10 Rows.heapAloneUptoRow.domain false) (((Rows.OpenSpec.upto Rows.heapAloneSpec).at F).post enc Try.prog Try.f10 false true false false) := by
  refine law_lift_upto (C := Try.checked) own started (by kernel_rfl) Try.func10
    (OpenSpec.witness (enc := enc) (C := Try.checked) (s := Rows.OpenSpec.upto Rows.heapAloneSpec) (k := Rows.uptoSmall) rfl false ⟨#[], #[.slice none 0 0, .agg #[.int .i64 0, .int .i64 0, .int .i64 0, .int .i64 0, .string ⟨#[]⟩, .int .i64 0, .int .i64 0, .int .i64 0, .string ⟨#[]⟩, .int .i64 0, .int .i64 0, .string ⟨#[]⟩, .int .i64 0, .int .i64 0, .string ⟨#[]⟩, .slice none 0 0]], []⟩ 8 (by kernel_rfl) (by kernel_rfl) (by kernel_rfl)
      (x := ([.nil, .agg [.lit (.int .i64 0), .lit (.int .i64 0), .lit (.int .i64 0), .lit (.int .i64 0), .lit (.string []), .lit (.int .i64 0), .agg [.lit (.int .i64 0), .lit (.int .i64 0), .lit (.string [])], .agg [.lit (.int .i64 0), .lit (.int .i64 0), .lit (.string [])], .agg [.lit (.int .i64 0), .lit (.int .i64 0), .lit (.string [])], .nil]], [], [])) (by kernel_rfl) rfl (by kernel_rfl))
    (by kernel_rfl) (by kernel_rfl) rfl (fun ds h => by
      match ds, h with
      | [d1, d2], _ => exact ⟨rfl, rfl, rfl⟩) rfl Try.underlying4 ?_
  intro W base args ds ps hval hA hlt hbk hwt hsh
  rw [Try.params10] at hA hval
  obtain ⟨v0, vs0, d0, ds0, p0, q0, hargs, rfl, rfl, h0, r0⟩ := trodAll_cons hA
  obtain ⟨v1, vs1, d1, ds1, p1, q1, rfl, rfl, rfl, h1, r1⟩ := trodAll_cons r0
  obtain ⟨rfl, rfl, rfl⟩ := trodAll_nil r1
  obtain rfl : args = #[v0, v1] := by cases args; simp_all
  obtain ⟨x0, len0, cap0, rfl⟩ := okWide_slice Try.underlying33 (hval 0 33 v0 rfl rfl)
  obtain ⟨fuel0, hf0⟩ := h0
  obtain ⟨l0, s0, b0⟩ := open_ops (v := .slice x0 len0 cap0) hf0
  obtain ⟨cs1, rfl, hsz1⟩ := okWide_struct Try.underlying51 (hval 1 51 v1 rfl rfl)
  obtain ⟨fuel1, hf1⟩ := h1
  obtain ⟨o1, e1, n1, wt1⟩ := op_of_trod (cs := cs1.toList) hf1
  have hl1 := wt1 (fun m hm => by have := List.all_eq_true.1 hwt m (DataW.weights_mem_each (j := 1) (t := 51) rfl rfl _ hm); simpa using this)
  obtain rfl : cs1 = o1.cells.toArray := by rw [← e1]
  -- WALK
  simp only [Rows.uptoBulkAll] at hbk
  have hN : opsW l0 ≤ 3000000 := by have h0 : opsW l0 ≤ Rows.uptoBulk d0 := b0; omega
  cases hb : bigM l0 with
  | true => exact big W _ l0 o1 s0 hN hb
  | false =>
    by_cases hE : o1.l.length ≤ 60 ∧ 2 ≤ o1.d ∧ o1.d ≤ 6
    · exact small W _ l0 o1 s0 n1 hN hb hE.1 hE.2.1 hE.2.2
    · exact far W _ l0 o1 s0 hN hb (by omega)
theorem proved : Rows.HeapAloneUptoSaid :=
  OpenClaim.holds_of_cond 10 Try.f10 rfl rfl rfl rfl rfl rfl rfl ⟨rfl, rfl, rfl, rfl, rfl⟩ rfl rfl rfl rfl rfl (by kernel_rfl) Try.func10 (by kernel_rfl)
    (of_decide_eq_true (by kernel_rfl)) (by unfold Func.isWrapper; first | (rw [if_pos (by decide +kernel)]; kernel_rfl) | (rw [if_neg (by decide +kernel)]; exact ⟨rfl, rfl⟩))
    (fun os started H enc _ F => lifted os started H enc F)
#print axioms proved
end Go.Proofs.Ytoancpjlkhijiaa.heapAlone
