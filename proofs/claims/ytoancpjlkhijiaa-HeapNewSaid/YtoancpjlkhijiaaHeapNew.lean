/-
  HeapNew: for any calls the law returns true: numbers rise one by one, and are never used again; a new object has what it was made of. No condition.
-/
import Derived.Test.YtoancpjlkhijiaaPre2
import Derived.IntWalk
namespace Go.Proofs.Ytoancpjlkhijiaa.heapNew
set_option linter.unusedSimpArgs false
open Go.ChangeShapes Go.WideShapes Go.ChangeAt Go.RowKit
set_option linter.unusedVariables false
theorem set_last (H : HeapM) (n : Int) (o : ObjM) : (H.set n o).last = H.last := rfl
theorem freeAll_last (ns : List Int) (H : HeapM) : (H.freeAll ns).last = H.last := by
  induction ns generalizing H with
  | nil => rfl
  | cons n r ih => exact ih (H.drop n)
theorem doo_last (H : HeapM) (o : OpM) (h : ¬ (o.d = 1 ∧ 1 ≤ o.kd ∧ o.kd ≤ 12)) : (H.doo o).last = H.last := by
  unfold HeapM.doo
  split
  · rename_i h1
    rw [if_neg (fun h2 => h ⟨h1, h2⟩)]
  split
  · unfold HeapM.setNum; split <;> rfl
  split
  · unfold HeapM.setAt; split
    · split <;> rfl
    · rfl
  split
  · unfold HeapM.replace; split
    · split <;> rfl
    · rfl
  split
  · unfold HeapM.put; split
    · split <;> rfl
    · rfl
  split
  · unfold HeapM.del; split <;> rfl
  split
  · rfl
  split
  · exact freeAll_last _ _
  · rfl
theorem doo_make (H : HeapM) (o : OpM) (h : o.d = 1 ∧ 1 ≤ o.kd ∧ o.kd ≤ 12) : H.doo o = H.add o.obj0 := by
  unfold HeapM.doo; rw [if_pos h.1, if_pos h.2]
theorem add_get {H : HeapM} {N : Nat} (G : H.Good N) (o : ObjM) (hn : okI (H.last + 1)) : (H.add o).of (V.ref (H.last + 1) hn) = some o := by
  unfold HeapM.of
  rw [if_pos (show (V.ref (H.last + 1) hn).kind = 4 from rfl)]
  exact getL_of_mem (G.add o).ok.nk (List.mem_append_right _ (by simp [V.ref]))
set_option maxRecDepth 100000 in
set_option maxHeartbeats 1600000 in
theorem big (w : World) (s : Value) (l : List OpM) (hs : SeesO w s l) (hb : bigM l = true) :
    Calls Try.prog 9 #[s] w (LawTrue w) := by
  have HS := Lib.hid hs
  obtain ⟨a, ac, rfl, -, -, -, -⟩ := hs
  have HB := Lib.hid hb
  clear hb
  go_enter Try.func9, Try.ntmps9
  go_wp2_with fail
  refine (HAt.new w w (Below.refl _ _)).mono ?_
  rintro e w1 ⟨h, rfl, A1, hb1⟩
  have B1 := Lib.hid hb1
  have C := big_ok w1 _ l (seesO_below HS.out B1.out)
  rw [HB.out] at C
  have C' := Lib.hid C
  clear A1 C hb1
  go_wp2_with fail
  refine C'.out.mono ?_
  rintro e w2 ⟨rfl, q, rfl⟩
  have B2 := Lib.hid (Below.drewN B1.out q)
  obtain ⟨w2, hw2⟩ : ∃ w2, w1.drewN q = w2 := ⟨_, rfl⟩
  rw [hw2] at B2 ⊢
  clear hw2
  have C := big_ok w2 _ l (seesO_below HS.out B2.out)
  rw [HB.out] at C
  have C2 := Lib.hid C
  clear C C'
  go_wp2_with fail
  refine C2.out.mono ?_
  rintro e w3 ⟨rfl, q, rfl⟩
  have B3 := Lib.hid (Below.drewN B2.out q)
  obtain ⟨w3, hw3⟩ : ∃ w3, w2.drewN q = w3 := ⟨_, rfl⟩
  rw [hw3] at B3 ⊢
  clear hw3 C2
  go_wp2
  go_ret
  exact ⟨rfl, B3.out⟩
set_option maxRecDepth 100000 in
set_option maxHeartbeats 3200000 in
theorem small (w : World) (s : Value) (l : List OpM) (hs : SeesO w s l) (hb : bigM l = false) :
    Calls Try.prog 9 #[s] w (LawTrue w) := by
  have HS := Lib.hid hs
  obtain ⟨a, ac, rfl, -, -, -, -⟩ := hs
  have HB := Lib.hid hb
  have HN := Lib.hid (not_big hb)
  have hl : (l.length : Int) ≤ 60 := by have := HN.out.1; omega
  clear hb
  go_enter Try.func9, Try.ntmps9
  go_wp2_with fail
  refine (HAt.new w w (Below.refl _ _)).mono ?_
  rintro e w1 ⟨h, rfl, A1, hb1⟩
  have S1 := Lib.hid (sep_of A1)
  have C := big_ok w1 _ l (seesO_below HS.out hb1)
  rw [HB.out] at C
  have C' := Lib.hid C
  clear A1 C hb1
  go_wp2_with fail
  refine C'.out.mono ?_
  rintro e w2 ⟨rfl, q, rfl⟩
  have S2 := Lib.hid (S1.out.drewN q)
  obtain ⟨w2, hw2⟩ : ∃ w2, w1.drewN q = w2 := ⟨_, rfl⟩
  rw [hw2] at S2 ⊢
  clear hw2 C' S1
  go_wp2
  go_loopw [4, 5] (fun la i wr => ∃ k : Nat, k ≤ l.length ∧ i = .int .i64 k ∧ la = .int .i64 (madeM (l.take k)).last ∧ Sep w [heapR h (madeM (l.take k))] wr) (fun _ i _ => l.length - (intOf i).toNat)
  case atStart => exact ⟨0, by omega, rfl, rfl, S2.out⟩
  case round =>
    clear S2
    obtain ⟨k, hk, rfl, rfl, S3⟩ := hrel
    have G := madeM_good (l.take k) (fun y hy => HN.out.2 y (List.mem_of_mem_take hy))
    have hlk : (l.take k).length ≤ 60 := by rw [List.length_take]; have := HN.out.1; omega
    by_cases hlt : k < l.length
    · obtain ⟨x, hx⟩ : ∃ x, l[k]? = some x := ⟨l[k], by simp [hlt]⟩
      obtain ⟨g, o, rfl, hc, hin⟩ := HS.out.at_ hx
      have hx60 := HN.out.2 x (List.mem_of_getElem? hx)
      have hT : madeM (l.take (k + 1)) = (madeM (l.take k)).doo x := by rw [List.take_add_one, hx]; exact madeM_snoc _ _
      generalize madeM (l.take k) = H at *
      obtain ⟨LL, A, back, -⟩ := S3.viaHAt 0 rfl
      have D := A.doo G x (hin.1.keep fun p v hp => cellBelow hp S3.below) (fun g o n c e h0 => by
        rcases hin.2 g o n c e h0 with h | ⟨_, h⟩
        · exact .inl h
        · cases h) (by omega)
      have HCC := Lib.hid (fun W (S : Below w.heap.size w W) j u (hu : x.cells[j]? = some u) => cellBelow (hc j u hu) S)
      have hcc : ∀ j u, x.cells[j]? = some u → wr.cell? ⟨g, o + k * 16 + j, none⟩ = some u := HCC.out wr S3.below
      have c0 := hcc 0 _ rfl
      have c1 := hcc 1 _ rfl
      have c2 := hcc 2 _ rfl
      have c3 := hcc 3 _ rfl
      have c4 := hcc 4 _ rfl
      have c5 := hcc 5 _ rfl
      have c6 := hcc 6 _ rfl
      have c7 := hcc 7 _ rfl
      have c8 := hcc 8 _ rfl
      have c9 := hcc 9 _ rfl
      have c10 := hcc 10 _ rfl
      have c11 := hcc 11 _ rfl
      have c12 := hcc 12 _ rfl
      have c13 := hcc 13 _ rfl
      have c14 := hcc 14 _ rfl
      have c15 := hcc 15 _ rfl
      simp only [Nat.add_zero] at c0
      have hil : (k : Int) < l.length := by omega
      have hlast : 0 ≤ H.last ∧ H.last ≤ 4000 := by have := G.ok.last; have := G.wt; omega
      have hl1 : 0 ≤ H.last := hlast.1
      have hl2 : H.last ≤ 4000 := hlast.2
      have G2 := G.doo x
      have HX := Lib.hid (And.intro hT (And.intro hlt (And.intro G (And.intro G2 (And.intro hx60 (And.intro hin hlk))))))
      have BK := Lib.hid back
      simp only [OpM.val] at D
      replace D := Lib.hid D
      clear hx hc hcc hin G hlk hx60 hlt hT A back S3 G2 hlast
      by_cases hmk : x.d = 1 ∧ 1 ≤ x.kd ∧ x.kd ≤ 12
      · have hok : okI (H.last + 1) := okI_of ⟨by omega, by omega⟩
        have hV : H.doV x = .agg #[.int .i64 4, .int .i64 (H.last + 1), .string ⟨#[]⟩] := by unfold HeapM.doV; rw [if_pos hmk]
        have hD := doo_make H x hmk
        have hof := add_get HX.out.2.2.1 x.obj0 hok
        have hd1 : (x.d == 1) = true := by simp [hmk.1]
        rw [hV] at D
        rw [hD] at D HX
        have k1 : (H.add x.obj0).kind (V.ref (H.last + 1) hok) = x.kd := by rw [HeapM.kind, hof]; rfl
        have k2 : (H.add x.obj0).items (V.ref (H.last + 1) hok) = x.l := by rw [HeapM.items, hof]; rfl
        have k3 : (H.add x.obj0).pairs (V.ref (H.last + 1) hok) = [] := by rw [HeapM.pairs, hof]; rfl
        have hlast2 : (H.add x.obj0).last = H.last + 1 := rfl
        have HH := Lib.hid (And.intro k1 (And.intro k2 (And.intro k3 hlast2)))
        clear hV hD hof hmk k1 k2 k3 hlast2
        generalize H.add x.obj0 = H' at *
        go_wp2_with fail
        refine D.out.mono ?_
        rintro e w3 ⟨rfl, A4⟩
        have S4 := (BK.out _ _ A4)
        replace S4 : Sep w [heapR h H'] w3 := S4
        have S5 := Lib.hid (S4.alloc (valObj (V.ref (H.last + 1) hok)))
        have d0 : (w3.alloc (.cells #[.int .i64 4, .int .i64 (H.last + 1), .string ⟨#[]⟩] 26)).cell? ⟨g, o + k * 16, none⟩ = some (.int .i64 x.d) := by
          have := HCC.out _ S5.out.below 0 _ rfl
          rwa [Nat.add_zero] at this
        obtain ⟨x0, x1, x2⟩ : (w3.alloc (.cells #[.int .i64 4, .int .i64 (H.last + 1), .string ⟨#[]⟩] 26)).cell? ⟨w3.heap.size, 0, none⟩ = some (.int .i64 4) ∧ (w3.alloc (.cells #[.int .i64 4, .int .i64 (H.last + 1), .string ⟨#[]⟩] 26)).cell? ⟨w3.heap.size, 1, none⟩ = some (.int .i64 (H.last + 1)) ∧ (w3.alloc (.cells #[.int .i64 4, .int .i64 (H.last + 1), .string ⟨#[]⟩] 26)).cell? ⟨w3.heap.size, 2, none⟩ = some (.string ⟨#[]⟩) := by
          obtain ⟨x0, x1, x2, -⟩ := valBlkO (S5.out.box 0 rfl)
          exact ⟨x0, x1, x2⟩
        clear D A4 BK S4 c0 c1 c2 c3 c4 c5 c6 c7 c8 c9 c10 c11 c12 c13 c14 c15
        go_upto_region 39 with fail
        obtain ⟨wb, hwb⟩ : ∃ wb, (w3.alloc (.cells #[.int .i64 4, .int .i64 (H.last + 1), .string ⟨#[]⟩] 26)) = wb := ⟨_, rfl⟩
        have hwb' : w3.alloc (valObj (V.ref (H.last + 1) hok)) = wb := hwb
        rw [hwb'] at S5
        obtain ⟨vb, hvb⟩ : ∃ vb, w3.heap.size = vb := ⟨_, rfl⟩
        rw [hvb] at S5
        clear d0 x0 x1 x2
        rw [hwb, hvb]
        clear hwb hwb' hvb
        obtain ⟨k1, k2, k3, k4⟩ := HH.out
        have K1 := fun W (S : Sep w [boxR vb (valObj (V.ref (H.last + 1) hok)), heapR h H'] W) => S.kind 1 rfl (V.ref (H.last + 1) hok)
        have K2 := fun W (S : Sep w [boxR vb (valObj (V.ref (H.last + 1) hok)), heapR h H'] W) => S.items 1 rfl HX.out.2.2.2.1 (by have := HX.out.2.2.2.2.1; have := HX.out.2.2.2.2.2.2; omega) (V.ref (H.last + 1) hok)
        have K3 := fun W (S : Sep w [boxR vb (valObj (V.ref (H.last + 1) hok)), heapR h H'] W) => S.size 1 rfl (V.ref (H.last + 1) hok)
        rw [k1] at K1
        rw [k2] at K2
        rw [k3] at K3
        simp only [V.val, V.ref, List.length_nil] at K1 K2 K3
        have K4 : Hid (∀ W sa sc, Sep w [valsR (.slice sa x.l.length sc) x.l, boxR vb (valObj (V.ref (H.last + 1) hok)), heapR h H'] W → Calls Try.prog 16 #[.slice sa x.l.length sc, .slice x.a x.l.length x.cap] W fun e w1 => e = .returned (.bool true) ∧ Sep w [boxR vb (valObj (V.ref (H.last + 1) hok)), heapR h H'] w1) := Lib.hid fun W sa sc S => by
          refine (same_vals W _ _ x.l x.l (S.row 0 rfl).sees' (HX.out.2.2.2.2.2.1.1.keep fun p v hp => cellBelow hp S.below)).mono fun e w1 ⟨h1, q, h2⟩ => ⟨by rw [h1]; simp, by rw [h2]; exact S.tail.drewN q⟩
        have KK : Hid (∀ W, Sep w [boxR vb (valObj (V.ref (H.last + 1) hok)), heapR h H'] W → (W.cell? ⟨vb, 0, none⟩ = some (.int .i64 4) ∧ W.cell? ⟨vb, 1, none⟩ = some (.int .i64 (H.last + 1)) ∧ W.cell? ⟨vb, 2, none⟩ = some (.string ⟨#[]⟩)) ∧ W.cell? ⟨g, o + k * 16 + 1, none⟩ = some (.int .i64 x.kd) ∧ W.cell? ⟨g, o + k * 16 + 15, none⟩ = some (.slice x.a x.l.length x.cap)) := Lib.hid fun W S => by
          obtain ⟨x0, x1, x2, -⟩ := valBlkO (S.box 0 rfl)
          exact ⟨⟨x0, x1, x2⟩, HCC.out _ S.below 1 _ rfl, HCC.out _ S.below 15 _ rfl⟩
        replace K1 := Lib.hid K1
        replace K2 := Lib.hid K2
        replace K3 := Lib.hid K3
        have hk0 : (0 : Int) ≤ k := by omega
        have e1 : (H.last + 1 != H.last + 1) = false := by simp
        have esum : IntKind.i64.wrap (H.last + 1) = H.last + 1 := IntWalk.i64_in _ (by omega)
        have e2 : (x.kd != x.kd) = false := by simp
        clear k1 k2 k3 k4
        go_cut [83] (fun s83 wx => s83 = .bool false ∧ Sep w [boxR vb (valObj (V.ref (H.last + 1) hok)), heapR h H'] wx)
        case first =>
          have T0 := S5.out
          clear S5
          go_region_held3 (fun W => (W.cell? ⟨vb, 0, none⟩ = some (.int .i64 4) ∧ W.cell? ⟨vb, 1, none⟩ = some (.int .i64 (H.last + 1)) ∧ W.cell? ⟨vb, 2, none⟩ = some (.string ⟨#[]⟩)) ∧ W.cell? ⟨g, o + k * 16 + 1, none⟩ = some (.int .i64 x.kd) ∧ W.cell? ⟨g, o + k * 16 + 15, none⟩ = some (.slice x.a x.l.length x.cap))
            (first | exact KK.out _ (by assumption) | exact KK.out _ (Sep.tail (by assumption)) | exact KK.out _ (Sep.drew (by assumption)))
            (first
            | (go_at_call 24; refine (K1.out _ (by first | assumption | exact Sep.drew (by assumption))).mono ?_; rintro e w6 ⟨rfl, T1, -⟩)
            | (go_at_call 15; refine (K2.out _ (by first | assumption | exact Sep.drew (by assumption))).mono ?_; rintro e w6 ⟨sv, rfl, T1, -⟩; obtain ⟨sa, sc, rfl⟩ := (T1.row 0 rfl).form)
            | (go_at_call 38; refine (K3.out _ (by first | assumption | exact Sep.drew (by assumption))).mono ?_; rintro e w6 ⟨rfl, T1, -⟩)
            | (go_at_call 16; refine (K4.out _ _ _ (by assumption)).mono ?_; rintro e w6 ⟨rfl, T1⟩))
          all_goals (go_wp2_with fail; go_meet; exact ⟨rfl, by assumption⟩)
        case rest =>
          obtain ⟨rfl, S6⟩ := hcut
          obtain ⟨⟨x0, x1, x2⟩, -⟩ := KK.out _ S6
          have S7 := Lib.hid S6.tail
          clear K1 K2 K3 K4 KK S6 S5
          go_wp2
          refine ⟨⟨k + 1, by have := HX.out.2.1; omega, by go_num, ?_, ?_⟩, by have := HX.out.2.1; simp [intOf]; omega⟩
          · rw [HX.out.1, HH.out.2.2.2]
          · rw [HX.out.1]; exact S7.out
      · have hV : H.doV x = .agg #[.int .i64 0, .int .i64 0, .string ⟨#[]⟩] := by unfold HeapM.doV; rw [if_neg hmk]
        have hD := doo_last H x hmk
        rw [hV] at D
        have HD := Lib.hid hD
        clear hV hD hmk
        generalize H.doo x = H' at *
        go_wp2_with fail
        refine D.out.mono ?_
        rintro e w3 ⟨rfl, A4⟩
        have S4 := (BK.out _ _ A4)
        replace S4 : Sep w [heapR h H'] w3 := S4
        have S5 := Lib.hid (S4.alloc (valObj V.zero))
        have d0 : (w3.alloc (.cells #[.int .i64 0, .int .i64 0, .string ⟨#[]⟩] 26)).cell? ⟨g, o + k * 16, none⟩ = some (.int .i64 x.d) := by
          have := HCC.out _ S5.out.below 0 _ rfl
          rwa [Nat.add_zero] at this
        obtain ⟨x0, x1, x2⟩ : (w3.alloc (.cells #[.int .i64 0, .int .i64 0, .string ⟨#[]⟩] 26)).cell? ⟨w3.heap.size, 0, none⟩ = some (.int .i64 0) ∧ (w3.alloc (.cells #[.int .i64 0, .int .i64 0, .string ⟨#[]⟩] 26)).cell? ⟨w3.heap.size, 1, none⟩ = some (.int .i64 0) ∧ (w3.alloc (.cells #[.int .i64 0, .int .i64 0, .string ⟨#[]⟩] 26)).cell? ⟨w3.heap.size, 2, none⟩ = some (.string ⟨#[]⟩) := by
          obtain ⟨x0, x1, x2, -⟩ := valBlkO (S5.out.box 0 rfl)
          exact ⟨x0, x1, x2⟩
        clear D A4 BK S4 c0 c1 c2 c3 c4 c5 c6 c7 c8 c9 c10 c11 c12 c13 c14 c15
        have S6 := Lib.hid S5.out.tail
        clear S5
        by_cases hd : x.d = 1
        · have hd1 : (x.d == 1) = true := by simp [hd]
          clear hd
          go_wp2
          refine ⟨⟨k + 1, by have := HX.out.2.1; omega, by go_num, ?_, ?_⟩, by have := HX.out.2.1; simp [intOf]; omega⟩
          · rw [HX.out.1, HD.out]
          · rw [HX.out.1]; exact S6.out
        · have hd1 : (x.d == 1) = false := by simpa using hd
          clear hd
          go_wp2
          refine ⟨⟨k + 1, by have := HX.out.2.1; omega, by go_num, ?_, ?_⟩, by have := HX.out.2.1; simp [intOf]; omega⟩
          · rw [HX.out.1, HD.out]
          · rw [HX.out.1]; exact S6.out
    · obtain rfl : k = l.length := by omega
      rw [List.take_length] at G S3 ⊢
      have A := S3.all 0 rfl G (by omega)
      have hasc := G.ok.asc
      have hpos : ∀ n ∈ (madeM l).objs.map (·.1), 1 ≤ n ∧ n ≤ (madeM l).last := fun n hn => by
        obtain ⟨p, hp, rfl⟩ := List.mem_map.1 hn
        exact G.ok.pos p hp
      have hlen : ((madeM l).objs.map (·.1)).length ≤ 4000 := by have := G.len; simp; omega
      generalize (madeM l).objs.map (·.1) = L at *
      generalize (madeM l).last = last at *
      have HL := Lib.hid (And.intro hasc hpos)
      have hlen' : (L.length : Int) ≤ 4000 := by omega
      have A' := Lib.hid A
      clear hlt A hasc hpos hlen hlk G S3
      go_wp2_with fail
      refine A'.out.mono ?_
      rintro e w3 ⟨sv, rfl, S4, -⟩
      obtain ⟨la, lc, rfl⟩ := (S4.row 0 rfl).form
      replace S4 := Lib.hid S4
      clear A'
      go_wp2
      go_loopw [9] (fun i wr => ∃ k : Nat, k ≤ L.length ∧ i = .int .i64 k ∧ Sep w [numsR (.slice la L.length lc) L, heapR h (madeM l)] wr) (fun i _ => L.length - (intOf i).toNat)
      case atStart => exact ⟨0, by omega, rfl, S4.out⟩
      case round =>
        clear S4
        obtain ⟨k, hk, rfl, S5⟩ := hrel
        by_cases hlt : k < L.length
        · obtain ⟨n, hn⟩ : ∃ n, L[k]? = some n := ⟨L[k], by simp [hlt]⟩
          obtain ⟨g, rfl⟩ := S5.numAddr 0 rfl hlt
          have c0 := S5.numCell 0 rfl hn
          obtain ⟨b1, b2⟩ := HL.out.2 n (List.mem_of_getElem? hn)
          have t1 : decide (n < 1) = false := by simp; omega
          have t2 : decide (last < n) = false := by simp; omega
          have hil : (k : Int) < L.length := by omega
          have hk0 : (0 : Int) ≤ k := by omega
          have HLT := Lib.hid hlt
          by_cases hz : k = 0
          · subst hz
            replace S5 := Lib.hid S5
            clear hn hlt b1 b2
            go_wp2
            go_quiet (fail)
            go_wp2
            refine ⟨⟨1, by have := HLT.out; omega, by go_num, S5.out.drewN _⟩, by have := HLT.out; simp [intOf]; omega⟩
          · obtain ⟨m, hm⟩ : ∃ m, L[k - 1]? = some m := ⟨L[k - 1]'(by omega), List.getElem?_eq_getElem _⟩
            have c1 := S5.numCell 0 rfl hm
            have hmn : m < n := by
              obtain ⟨h1, e1⟩ := List.getElem?_eq_some_iff.1 hm
              obtain ⟨h2, e2⟩ := List.getElem?_eq_some_iff.1 hn
              rw [← e1, ← e2]
              exact List.pairwise_iff_getElem.1 HL.out.1 (k - 1) k h1 h2 (by omega)
            obtain ⟨j, rfl⟩ : ∃ j, k = j + 1 := ⟨k - 1, by omega⟩
            rw [Nat.add_sub_cancel] at c1
            have t3 : decide (n ≤ m) = false := by simp; omega
            have t4 : decide (0 < ((j + 1 : Nat) : Int)) = true := by rw [decide_eq_true_eq]; omega
            have hjl : (j : Int) < L.length := by omega
            have hj0 : (0 : Int) ≤ j := by omega
            replace S5 := Lib.hid S5
            clear hn hm hlt b1 b2 hmn hz
            have hs1 : IntKind.i64.wrap (((j + 1 : Nat) : Int) - 1) = (j : Int) := by rw [IntWalk.i64_in _ (by omega)]; omega
            go_wp2
            go_quiet (fail)
            go_wp2
            refine ⟨⟨j + 1 + 1, by have := HLT.out; omega, by go_num, S5.out.drewN _⟩, by have := HLT.out; simp [intOf]; omega⟩
        · obtain rfl : k = L.length := by omega
          replace S5 := Lib.hid S5
          clear hlt
          go_wp2_with fail
          refine (kept_ok _).mono ?_
          rintro e w4 ⟨rfl, hb4⟩
          have B := Lib.hid (S5.out.later hb4).below
          clear S5 hb4
          go_wp2
          go_ret
          exact ⟨rfl, B.out⟩
set_option maxRecDepth 100000 in
theorem lifted (os : Os) (started : os.Started) (H : Type) (enc : TypeId × Value → H) :
    ReturnsInHanded {} Try.checked os 9 .any (Rows.heapNewSpec.pre6 enc Try.prog Try.f9 Rows.heapNewRow.domain false) (Rows.heapNewSpec.post enc Try.prog Try.f9 false true false false) := by
  refine law_lift (C := Try.checked) own started (by kernel_rfl) Try.func9
    (ChangeSpec.witness6 (enc := enc) (C := Try.checked) false ⟨#[], #[.slice none 0 0], []⟩ 8 (by kernel_rfl) (by kernel_rfl) (by kernel_rfl) (by kernel_rfl))
    (by kernel_rfl) (by kernel_rfl) rfl (fun ds h => by
      match ds, h with
      | [d1], _ => exact ⟨rfl, rfl, rfl⟩) rfl Try.underlying4 ?_
  intro W base args ds ps hval hA hlt hwt hsh
  rw [Try.params9] at hA hval
  obtain ⟨v0, vs0, d0, ds0, p0, q0, hargs, rfl, rfl, h0, r0⟩ := trodAll_cons hA
  obtain ⟨rfl, rfl, rfl⟩ := trodAll_nil r0
  obtain rfl : args = #[v0] := by cases args; simp_all
  obtain ⟨x0, len0, cap0, rfl⟩ := okWide_slice Try.underlying33 (hval 0 33 v0 rfl rfl)
  obtain ⟨fuel0, hf0⟩ := h0
  obtain ⟨l0, s0, b0⟩ := open_ops (v := .slice x0 len0 cap0) hf0
  -- WALK
  cases hb : bigM l0 with
  | true => exact big W _ l0 s0 hb
  | false => exact small W _ l0 s0 hb
theorem proved : Rows.HeapNewSaid :=
  OpenClaim.holds_of_wide 9 Try.f9 rfl rfl rfl rfl rfl rfl rfl ⟨rfl, rfl, rfl, rfl, rfl⟩ rfl rfl rfl rfl rfl (by kernel_rfl) Try.func9 (by kernel_rfl)
    (of_decide_eq_true (by kernel_rfl)) (by unfold Func.isWrapper; first | (rw [if_pos (by decide +kernel)]; kernel_rfl) | (rw [if_neg (by decide +kernel)]; exact ⟨rfl, rfl⟩))
    (fun os started H enc _ => lifted os started H enc)
#print axioms proved
end Go.Proofs.Ytoancpjlkhijiaa.heapNew
