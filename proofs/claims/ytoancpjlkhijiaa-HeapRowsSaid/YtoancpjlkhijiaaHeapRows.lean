/-
  HeapRows: for any two rows of values and two numbers the law returns true: items are replaced just so, and what was told of them is a copy. No condition.
-/
import Derived.Test.YtoancpjlkhijiaaRow
namespace Go.Proofs.Ytoancpjlkhijiaa.heapRows
open Go.ChangeShapes Go.WideShapes Go.ChangeAt Go.RowKit
set_option linter.unusedVariables false
def LawTrue (w : World) (e : Ending) (w' : World) : Prop := e = .returned (.bool true) ∧ Below w.heap.size w w'
theorem big (w : World) (s t : Value) (l m : List V) (i j : Int) (hs : SeesV w s l) (ht : SeesV w t m) (h : 200 < l.length ∨ 200 < m.length) :
    Calls Try.prog 3 #[s, t, .int .i64 i, .int .i64 j] w (LawTrue w) := by
  obtain ⟨a, ac, rfl, _⟩ := hs
  obtain ⟨b, bc, rfl, _⟩ := ht
  have HN := Lib.hid (HAt.new w w (Below.refl _ _))
  by_cases h1 : 200 < l.length
  · have h1' : (200 : Int) < l.length := by omega
    clear h h1
    go_enter Try.func3, Try.ntmps3
    go_wp2_with fail
    refine HN.out.mono ?_
    rintro e w1 ⟨h, rfl, A1, hb1⟩
    have HB := Lib.hid hb1
    clear A1 hb1
    go_wp2
    go_ret
    exact ⟨rfl, HB.out⟩
  · have h2' : (200 : Int) < m.length := by omega
    have h1' : (l.length : Int) ≤ 200 := by omega
    clear h h1
    go_enter Try.func3, Try.ntmps3
    go_wp2_with fail
    refine HN.out.mono ?_
    rintro e w1 ⟨h, rfl, A1, hb1⟩
    have HB := Lib.hid hb1
    clear A1 hb1
    go_wp2
    go_ret
    exact ⟨rfl, HB.out⟩
def ob (l : List V) : ObjM := ⟨1, ⟨#[]⟩, 0, l, [], by decide, by decide, by decide⟩
def H1 (l : List V) : HeapM := ⟨[(1, ob l)], 1⟩
def v1 : V := V.ref 1 (by decide)
theorem h1 (l : List V) : (⟨[], 0⟩ : HeapM).add (ob l) = H1 l := rfl
theorem of1 (l : List V) : (H1 l).of v1 = some (ob l) := rfl
theorem it1 (l : List V) : (H1 l).items v1 = l := rfl
def inR (l : List V) (i j : Int) : Bool := decide (0 ≤ i ∧ i ≤ j ∧ j ≤ l.length)
theorem can (l : List V) (i j : Int) : (H1 l).canReplace v1 i j = inR l i j := by simp only [HeapM.canReplace, of1]; rfl
def want (l m : List V) (i j : Int) : List V := if inR l i j then l.take i.toNat ++ m ++ l.drop j.toNat else l
theorem rep (l m : List V) (i j : Int) : (H1 l).replace v1 i j m = H1 (want l m i j) := by
  simp only [HeapM.replace, of1]
  unfold want inR
  by_cases h : 0 ≤ i ∧ i ≤ j ∧ j ≤ l.length
  · have h' : 0 ≤ i ∧ i ≤ j ∧ j ≤ (ob l).items.length := h
    rw [if_pos h', if_pos (by simpa using h)]; rfl
  · have h' : ¬ (0 ≤ i ∧ i ≤ j ∧ j ≤ (ob l).items.length) := h
    rw [if_neg h', if_neg (by simpa using h)]
theorem good (l : List V) (h : l.length ≤ 1000) : (H1 l).Good 2000 := ⟨⟨by simp [H1], by simp [H1], by simp [H1]⟩, by simp [H1, HeapM.weight, allVals, ObjM.vals, ob]; omega⟩
theorem want_len (l m : List V) (i j : Int) : (want l m i j).length ≤ l.length + m.length := by
  unfold want inR
  split
  · rename_i h; simp at h; simp only [List.length_append, List.length_take, List.length_drop]; omega
  · omega
def chg : V := ⟨3, 0, ⟨#[99, 104, 97, 110, 103, 101, 100]⟩, by decide, by decide, by decide⟩
set_option maxRecDepth 100000 in
set_option maxHeartbeats 1600000 in
theorem small (w : World) (s t : Value) (l m : List V) (i j : Int) (hi : okI i) (hj : okI j) (hs : SeesV w s l) (ht : SeesV w t m) (ha : Arg w [] s) (hb : Arg w [] t) (hl : l.length ≤ 200) (hm : m.length ≤ 200) :
    Calls Try.prog 3 #[s, t, .int .i64 i, .int .i64 j] w (LawTrue w) := by
  have HS := Lib.hid hs
  have HT := Lib.hid ht
  obtain ⟨a, ac, rfl, -, -, -⟩ := hs
  obtain ⟨b, bc, rfl, -, -, -⟩ := ht
  have HLM := Lib.hid (And.intro hl hm)
  have hl' : (l.length : Int) ≤ 200 := by omega
  have hm' : (m.length : Int) ≤ 200 := by omega
  clear hl hm
  go_enter Try.func3, Try.ntmps3
  go_wp2_with fail
  refine (HAt.new w w (Below.refl _ _)).mono ?_
  rintro e w1 ⟨h, rfl, A1, hb1⟩
  have C1 := A1.list good_empty (by omega) (ob l) (.slice a l.length ac) (HS.out.keep fun p v hp => cellBelow hp hb1) (by have := HLM.out.1; simp only [ob]; omega) rfl rfl rfl rfl
  replace C1 := Lib.hid C1
  clear A1 hb1
  go_wp2_with fail
  refine C1.out.mono ?_
  rintro e w2 ⟨rfl, A2⟩
  replace A2 : HAt w h (H1 l) [] w2 := A2
  have A3 := A2.alloc (valObj v1)
  have C2 := A3.replace (good l (by have := HLM.out.1; omega)) v1 i j (.slice b m.length bc) m (HT.out.keep fun p v hp => cellBelow hp A3.below) (by have := HLM.out.2; omega)
  rw [can, rep] at C2
  replace C2 := Lib.hid C2
  clear A2 A3
  go_wp2_with fail
  refine C2.out.mono ?_
  rintro e w3 ⟨rfl, A4⟩
  replace A4 := Lib.hid A4
  clear C1 C2
  go_upto_region 6 with fail
  go_cut [11, 59] (fun s11 s59 wx => s11 = .bool (inR l i j) ∧ s59 = .bool false ∧ wx = w3)
  case first =>
    by_cases c0 : 0 ≤ i
    · by_cases c1 : i ≤ j
      · by_cases c2 : j ≤ l.length
        · have hin : inR l i j = true := by simp [inR, c0, c1, c2]
          rw [hin]
          go_wp2_with fail
          go_meet
          exact ⟨by rw [hin], rfl, rfl⟩
        · have hin : inR l i j = false := by simp [inR, c2]
          rw [hin]
          go_wp2_with fail
          go_meet
          exact ⟨by rw [hin], rfl, rfl⟩
      · have hin : inR l i j = false := by simp [inR, c1]
        rw [hin]
        go_wp2_with fail
        go_meet
        exact ⟨by rw [hin], rfl, rfl⟩
    · have hin : inR l i j = false := by simp [inR, c0]
      rw [hin]
      go_wp2_with fail
      go_meet
      exact ⟨by rw [hin], rfl, rfl⟩
  case rest =>
    obtain ⟨rfl, rfl, rfl⟩ := hcut
    cases hin : inR l i j with
    | true =>
      obtain ⟨c0, c1, c2⟩ : 0 ≤ i ∧ i ≤ j ∧ j ≤ l.length := by simpa [inR] using hin
      obtain ⟨p, rfl⟩ : ∃ p : Nat, i = p := ⟨i.toNat, by omega⟩
      obtain ⟨q, rfl⟩ : ∃ q : Nat, j = q := ⟨j.toNat, by omega⟩
      have c1' : p ≤ q := by omega
      have c2' : q ≤ l.length := by omega
      have hac : l.length ≤ ac := by obtain ⟨_, _, e, h1, _⟩ := HS.out; cases e; exact h1
      have hu : Try.prog.underlying 22 = some (.slice (Try.prog.elem 22)) := by kernel_rfl
      have hsz : ∀ W, (sizeOf (Try.prog.elem 22)).run Try.prog W = .ok 3 W := fun W => by kernel_rfl
      obtain ⟨a2, ha2, sees2⟩ := HS.out.part (Nat.zero_le p) (Nat.le_trans c1' c2') (Nat.le_trans (Nat.le_trans c1' c2') hac) (Nat.le_refl _)
      obtain ⟨a3, ha3, sees3⟩ := HS.out.part c2' (Nat.le_refl _) hac (Nat.le_refl _)
      have s2 : ∀ W, (Instr.slice 22 (.slice a l.length ac) none (some (.int .i64 p)) none).run Try.prog W = .ok (.slice a2 p ac) W := fun W => by
        rw [run_slice_h W _ _ _ _ hu _ _ (by omega) (by omega), hsz]
        exact congrArg (fun x => Result.ok x W) ha2
      have s3 : ∀ W, (Instr.slice 22 (.slice a l.length ac) (some (.int .i64 q)) none none).run Try.prog W = .ok (.slice a3 (l.length - q) (ac - q)) W := fun W => by
        rw [run_slice_l W _ _ _ _ hu _ _ (by omega) (by omega), hsz]
        exact congrArg (fun x => Result.ok x W) ha3
      have R0 := RowAt.made A4.out (fun p hp => A4.out.lt p hp)
      have HSS := Lib.hid (And.intro sees2 sees3)
      have HIN := Lib.hid hin
      have HC := Lib.hid (And.intro c1' c2')
      clear sees2 sees3 ha2 ha3 hsz hin c1' c2' hac hu
      obtain ⟨l2, hl2⟩ : ∃ x, x = (l.drop 0).take (p - 0) := ⟨_, rfl⟩
      obtain ⟨l3, hl3⟩ : ∃ x, x = (l.drop q).take (l.length - q) := ⟨_, rfl⟩
      rw [← hl2, ← hl3] at HSS
      have HW : Hid (([] ++ l2 ++ m) ++ l3 = want l m p q ∧ l2.length ≤ 200 ∧ l3.length ≤ 200) := Lib.hid (by
        have := HLM.out
        rw [want, HIN.out, hl2, hl3]
        refine ⟨?_, by simp; omega, by simp; omega⟩
        rw [if_pos rfl, List.drop_zero, List.take_of_length_le (l := l.drop q) (by simp)]
        simp)
      clear hl2 hl3
      go_wp2_with (at_builtin; refine wpList_row_append rfl _ _ rfl _ _ rfl R0 _ _ rfl (HSS.out.1.keep fun p v hp => cellBelow hp R0.1.below) (by have := HW.out.2.1; simp; omega) ?_)
      intro va1 vc1 w5 R1
      clear R0 s2
      go_wp2_with (at_builtin; refine wpList_row_append rfl _ _ rfl _ _ rfl R1 _ _ rfl (HT.out.keep fun p v hp => cellBelow hp R1.1.below) (by have := HW.out.2.1; have := HLM.out; simp; omega) ?_)
      intro va2 vc2 w6 R2
      clear R1
      go_wp2_with (at_builtin; refine wpList_row_append rfl _ _ rfl _ _ rfl R2 _ _ rfl (HSS.out.2.keep fun p v hp => cellBelow hp R2.1.below) (by have := HW.out.2; have := HLM.out; simp; omega) ?_)
      intro va3 vc3 w7 R3
      obtain ⟨n, hn⟩ : ∃ n, l2.length + m.length + l3.length = n := ⟨_, rfl⟩
      rw [hn] at R3 ⊢
      have R4 : RowAt wc.heap.size w h (H1 (want l m p q)) [(w2.heap.size, valObj v1)] w7 (.slice va3 n vc3) (want l m p q) := by
        have e : l2 ++ (m ++ l3) = want l m p q := by have := HW.out.1; simpa using this
        rw [e] at R3; exact R3
      have hD : (want l m p q).length ≤ 600 := by rw [← HW.out.1]; have := HW.out.2; have := HLM.out; simp; omega
      have HLT := Lib.hid (A4.out.lt (w2.heap.size, valObj v1) (by simp))
      clear R2 R3 s3 HIN HC HSS HW hn A4
      generalize want l m p q = D at *
      obtain ⟨vb, vd, e⟩ := R4.2.1.form
      obtain ⟨rfl, rfl, rfl⟩ := Value.slice.inj e
      clear e
      have hD' : (D.length : Int) ≤ 600 := by omega
      replace hD := Lib.hid hD
      have A7 := R4.1
      have C3 := A7.items (good D (by have := hD.out; omega)) (by omega) v1
      rw [it1] at C3
      obtain ⟨b0, b1, b2, _⟩ := valBlkO (A7.box (q := w2.heap.size) (o := valObj v1) (by simp))
      simp only [v1, V.ref] at b0 b1 b2
      replace C3 := Lib.hid C3
      replace R4 := Lib.hid R4
      clear A7
      go_wp2_with fail
      refine C3.out.mono ?_
      rintro e w8 ⟨sv, rfl, I1, I2, A8, I4⟩
      obtain ⟨ia, ic, rfl⟩ := I1.form
      have S8 := A8.keepSl R4.out.2.1 (fun p hp => List.mem_append_right _ (List.mem_append_left _ hp))
      have C4 := Lib.hid (same_vals w8 _ _ D D I1.sees' S8.sees')
      replace I1 := Lib.hid I1
      replace I2 := Lib.hid I2
      replace A8 := Lib.hid A8
      replace S8 := Lib.hid S8
      clear b0 b1 b2 I4 C3
      go_wp2_with fail
      refine C4.out.mono ?_
      rintro e w9 ⟨rfl, n9, rfl⟩
      rw [show decide True = true from rfl]
      have HX : Hid (slIs (w8.drewN n9) 26 3 V.cells (.slice ia D.length ic) D ∧ HAt w h (H1 D) (ownL (w8.drewN n9) (.slice ia D.length ic) ++ (ownL w7 (.slice va3 D.length vc3) ++ [(w2.heap.size, valObj v1)])) (w8.drewN n9)) := Lib.hid ⟨I1.out.drewN n9, by
        have e : ownL (w8.drewN n9) (.slice ia D.length ic) = ownL w8 (.slice ia D.length ic) := by simp [ownL]
        rw [e]; exact A8.out.later (Below.drewN (Below.refl _ _) n9)⟩
      obtain ⟨w10, hw10⟩ : ∃ w10, w8.drewN n9 = w10 := ⟨_, rfl⟩
      rw [hw10] at HX ⊢
      clear hw10 C4 c0 c1 c2 hi hj S8 I1 A8 HS HT ha hb hl' hm'
      have IG : Hid (∀ g, (Value.slice ia D.length ic).ownBlock = some g → w.heap.size ≤ g ∧ wc.heap.size ≤ g ∧ (∀ p ∈ ownL w7 (.slice va3 D.length vc3) ++ [(w2.heap.size, valObj v1)], p.1 ≠ g)) := Lib.hid fun g hg => by
        have h1 := I2.out g hg
        have h2 := R4.out.2.2.2.2.1
        have h3 := R4.out.2.2.2.2.2
        refine ⟨by omega, by omega, fun p hp => ?_⟩
        have := R4.out.1.lt p hp
        omega
      go_wp2
      go_loopw [14] (fun i wr => ∃ (k : Nat) (D' : List V), k ≤ D.length ∧ i = .int .i64 k ∧ D'.length = D.length ∧ slIs wr 26 3 V.cells (.slice ia D.length ic) D' ∧ HAt w h (H1 D) (ownL wr (.slice ia D.length ic) ++ (ownL w7 (.slice va3 D.length vc3) ++ [(w2.heap.size, valObj v1)])) wr) (fun i _ => D.length - (intOf i).toNat)
      case atStart => exact ⟨0, D, by omega, rfl, rfl, HX.out.1, HX.out.2⟩
      case round =>
        obtain ⟨k, D', hk, rfl, hlen, hsl, hA⟩ := hrel
        by_cases hlt : k < D.length
        · obtain ⟨x, hx⟩ : ∃ x, D'[k]? = some x := ⟨D'[k]'(by omega), by simp⟩
          obtain ⟨g, rfl⟩ : ∃ g, ia = some ⟨g, 0, none⟩ := by
            rcases hsl.shape with ⟨h1, h2⟩ | ⟨g, cap, h1, _⟩
            · subst h2; simp at hx
            · exact ⟨g, (Value.slice.inj h1).1⟩
          have j0 := hsl.cell V.cells_len rfl hx (j := 0) rfl
          have j1 := hsl.cell V.cells_len rfl hx (j := 1) rfl
          have j2 := hsl.cell V.cells_len rfl hx (j := 2) rfl
          rw [Nat.add_zero] at j0
          have jf : ∀ j, wr.frozen? ⟨g, j, none⟩ = false := fun j => hsl.frozen rfl j
          have hkl : (k : Int) < D.length := by omega
          have HK := Lib.hid (And.intro hlen hlt)
          replace hA := Lib.hid hA
          replace hsl := Lib.hid hsl
          clear hx hlen hlt
          go_wp2
          have hkd : k < D'.length := by have := HK.out; omega
          have hsl' := hsl.out
          have hA' := hA.out
          have hl' := HK.out.1
          have hI := IG.out g rfl
          rw [← hl'] at hsl' hA' hI
          obtain ⟨z1, z2⟩ := hA'.wrote hsl' hI.1 hI.2.2 hkd chg
          rw [hl'] at z1 z2
          refine ⟨⟨k + 1, D'.set k chg, by have := HK.out; omega, by go_num, by rw [List.length_set]; exact hl', z1, z2⟩, by simp [intOf]; omega⟩
        · obtain rfl : k = D.length := by omega
          clear hlt
          replace hA := Lib.hid hA
          replace hlen := Lib.hid hlen
          replace hsl := Lib.hid hsl
          go_wp2_with fail
          refine (kept_ok _).mono ?_
          rintro e w11 ⟨rfl, hb11⟩
          have A11 : HAt w h (H1 D) (ownL w7 (.slice va3 D.length vc3) ++ [(w2.heap.size, valObj v1)]) w11 := (hA.out.later hb11).less (fun p hp => List.mem_append_right _ hp)
          have C5 := A11.items (good D (by have := hD.out; omega)) (by omega) v1
          rw [it1] at C5
          obtain ⟨b0, b1, b2, _⟩ := valBlkO (A11.box (q := w2.heap.size) (o := valObj v1) (by simp))
          simp only [v1, V.ref] at b0 b1 b2
          have S11 := Lib.hid (A11.keepSl R4.out.2.1 (fun p hp => List.mem_append_left _ hp))
          replace C5 := Lib.hid C5
          clear A11 hb11
          go_wp2_with fail
          refine C5.out.mono ?_
          rintro e w12 ⟨sv, rfl, I1, -, A12, -⟩
          obtain ⟨ja, jc, rfl⟩ := I1.form
          have S12 := A12.keepSl R4.out.2.1 (fun p hp => List.mem_append_right _ (List.mem_append_left _ hp))
          have C6 := Lib.hid (same_vals w12 _ _ D D I1.sees' S12.sees')
          replace A12 := Lib.hid A12
          clear b0 b1 b2 C5 I1 S12
          go_wp2_with fail
          refine C6.out.mono ?_
          rintro e w13 ⟨rfl, n13, rfl⟩
          rw [show decide True = true from rfl]
          have HB : Hid (Below w.heap.size w (w12.drewN n13)) := Lib.hid (Below.drewN A12.out.below n13)
          obtain ⟨w14, hw14⟩ : ∃ w14, w12.drewN n13 = w14 := ⟨_, rfl⟩
          rw [hw14] at HB ⊢
          clear hw14 C6
          go_wp2
          go_ret
          exact ⟨rfl, HB.out⟩
    | false =>
      have R0 := RowAt.made A4.out (fun p hp => A4.out.lt p hp)
      have HW : Hid (l = want l m i j) := Lib.hid (by rw [want, hin]; rfl)
      clear hin
      go_wp2_with (at_builtin; refine wpList_row_append rfl _ _ rfl _ _ rfl R0 _ _ rfl (HS.out.keep fun p v hp => cellBelow hp R0.1.below) (by have := HLM.out; simp; omega) ?_)
      intro va1 vc1 w5 R3
      have R4 : RowAt wc.heap.size w h (H1 (want l m i j)) [(w2.heap.size, valObj v1)] w5 (.slice va1 l.length vc1) (want l m i j) := by
        have e := HW.out
        conv => rhs; rw [← e]
        simpa using R3
      have hD : (want l m i j).length ≤ 600 := by rw [← HW.out]; have := HLM.out; omega
      have HLT := Lib.hid (A4.out.lt (w2.heap.size, valObj v1) (by simp))
      obtain ⟨n, hn⟩ : ∃ n, l.length = n := ⟨_, rfl⟩
      clear R0 R3 HW A4
      generalize want l m i j = D at *
      obtain ⟨vb, vd, e⟩ := R4.2.1.form
      obtain ⟨rfl, hlD, rfl⟩ := Value.slice.inj e
      rw [hlD] at R4 ⊢
      clear e hlD hl' hm' HS HT ha hb hn n
      have hD' : (D.length : Int) ≤ 600 := by omega
      replace hD := Lib.hid hD
      have A7 := R4.1
      have C3 := A7.items (good D (by have := hD.out; omega)) (by omega) v1
      rw [it1] at C3
      obtain ⟨b0, b1, b2, _⟩ := valBlkO (A7.box (q := w2.heap.size) (o := valObj v1) (by simp))
      simp only [v1, V.ref] at b0 b1 b2
      replace C3 := Lib.hid C3
      replace R4 := Lib.hid R4
      clear A7
      go_wp2_with fail
      refine C3.out.mono ?_
      rintro e w8 ⟨sv, rfl, I1, I2, A8, I4⟩
      obtain ⟨ia, ic, rfl⟩ := I1.form
      have S8 := A8.keepSl R4.out.2.1 (fun p hp => List.mem_append_right _ (List.mem_append_left _ hp))
      have C4 := Lib.hid (same_vals w8 _ _ D D I1.sees' S8.sees')
      replace I1 := Lib.hid I1
      replace I2 := Lib.hid I2
      replace A8 := Lib.hid A8
      replace S8 := Lib.hid S8
      clear b0 b1 b2 I4 C3
      go_wp2_with fail
      refine C4.out.mono ?_
      rintro e w9 ⟨rfl, n9, rfl⟩
      rw [show decide True = true from rfl]
      have HX : Hid (slIs (w8.drewN n9) 26 3 V.cells (.slice ia D.length ic) D ∧ HAt w h (H1 D) (ownL (w8.drewN n9) (.slice ia D.length ic) ++ (ownL w5 (.slice va1 D.length vc1) ++ [(w2.heap.size, valObj v1)])) (w8.drewN n9)) := Lib.hid ⟨I1.out.drewN n9, by
        have e : ownL (w8.drewN n9) (.slice ia D.length ic) = ownL w8 (.slice ia D.length ic) := by simp [ownL]
        rw [e]; exact A8.out.later (Below.drewN (Below.refl _ _) n9)⟩
      obtain ⟨w10, hw10⟩ : ∃ w10, w8.drewN n9 = w10 := ⟨_, rfl⟩
      rw [hw10] at HX ⊢
      clear hw10 C4 hi hj S8 I1 A8
      have IG : Hid (∀ g, (Value.slice ia D.length ic).ownBlock = some g → w.heap.size ≤ g ∧ wc.heap.size ≤ g ∧ (∀ p ∈ ownL w5 (.slice va1 D.length vc1) ++ [(w2.heap.size, valObj v1)], p.1 ≠ g)) := Lib.hid fun g hg => by
        have h1 := I2.out g hg
        have h2 := R4.out.2.2.2.2.1
        have h3 := R4.out.2.2.2.2.2
        refine ⟨by omega, by omega, fun p hp => ?_⟩
        have := R4.out.1.lt p hp
        omega
      go_wp2
      go_loopw [14] (fun i wr => ∃ (k : Nat) (D' : List V), k ≤ D.length ∧ i = .int .i64 k ∧ D'.length = D.length ∧ slIs wr 26 3 V.cells (.slice ia D.length ic) D' ∧ HAt w h (H1 D) (ownL wr (.slice ia D.length ic) ++ (ownL w5 (.slice va1 D.length vc1) ++ [(w2.heap.size, valObj v1)])) wr) (fun i _ => D.length - (intOf i).toNat)
      case atStart => exact ⟨0, D, by omega, rfl, rfl, HX.out.1, HX.out.2⟩
      case round =>
        obtain ⟨k, D', hk, rfl, hlen, hsl, hA⟩ := hrel
        by_cases hlt : k < D.length
        · obtain ⟨x, hx⟩ : ∃ x, D'[k]? = some x := ⟨D'[k]'(by omega), by simp⟩
          obtain ⟨g, rfl⟩ : ∃ g, ia = some ⟨g, 0, none⟩ := by
            rcases hsl.shape with ⟨h1, h2⟩ | ⟨g, cap, h1, _⟩
            · subst h2; simp at hx
            · exact ⟨g, (Value.slice.inj h1).1⟩
          have j0 := hsl.cell V.cells_len rfl hx (j := 0) rfl
          have j1 := hsl.cell V.cells_len rfl hx (j := 1) rfl
          have j2 := hsl.cell V.cells_len rfl hx (j := 2) rfl
          rw [Nat.add_zero] at j0
          have jf : ∀ j, wr.frozen? ⟨g, j, none⟩ = false := fun j => hsl.frozen rfl j
          have hkl : (k : Int) < D.length := by omega
          have HK := Lib.hid (And.intro hlen hlt)
          replace hA := Lib.hid hA
          replace hsl := Lib.hid hsl
          clear hx hlen hlt
          go_wp2
          have hkd : k < D'.length := by have := HK.out; omega
          have hsl' := hsl.out
          have hA' := hA.out
          have hl' := HK.out.1
          have hI := IG.out g rfl
          rw [← hl'] at hsl' hA' hI
          obtain ⟨z1, z2⟩ := hA'.wrote hsl' hI.1 hI.2.2 hkd chg
          rw [hl'] at z1 z2
          refine ⟨⟨k + 1, D'.set k chg, by have := HK.out; omega, by go_num, by rw [List.length_set]; exact hl', z1, z2⟩, by simp [intOf]; omega⟩
        · obtain rfl : k = D.length := by omega
          clear hlt
          replace hA := Lib.hid hA
          replace hlen := Lib.hid hlen
          replace hsl := Lib.hid hsl
          go_wp2_with fail
          refine (kept_ok _).mono ?_
          rintro e w11 ⟨rfl, hb11⟩
          have A11 : HAt w h (H1 D) (ownL w5 (.slice va1 D.length vc1) ++ [(w2.heap.size, valObj v1)]) w11 := (hA.out.later hb11).less (fun p hp => List.mem_append_right _ hp)
          have C5 := A11.items (good D (by have := hD.out; omega)) (by omega) v1
          rw [it1] at C5
          obtain ⟨b0, b1, b2, _⟩ := valBlkO (A11.box (q := w2.heap.size) (o := valObj v1) (by simp))
          simp only [v1, V.ref] at b0 b1 b2
          have S11 := Lib.hid (A11.keepSl R4.out.2.1 (fun p hp => List.mem_append_left _ hp))
          replace C5 := Lib.hid C5
          clear A11 hb11
          go_wp2_with fail
          refine C5.out.mono ?_
          rintro e w12 ⟨sv, rfl, I1, -, A12, -⟩
          obtain ⟨ja, jc, rfl⟩ := I1.form
          have S12 := A12.keepSl R4.out.2.1 (fun p hp => List.mem_append_right _ (List.mem_append_left _ hp))
          have C6 := Lib.hid (same_vals w12 _ _ D D I1.sees' S12.sees')
          replace A12 := Lib.hid A12
          clear b0 b1 b2 C5 I1 S12
          go_wp2_with fail
          refine C6.out.mono ?_
          rintro e w13 ⟨rfl, n13, rfl⟩
          rw [show decide True = true from rfl]
          have HB : Hid (Below w.heap.size w (w12.drewN n13)) := Lib.hid (Below.drewN A12.out.below n13)
          obtain ⟨w14, hw14⟩ : ∃ w14, w12.drewN n13 = w14 := ⟨_, rfl⟩
          rw [hw14] at HB ⊢
          clear hw14 C6
          go_wp2
          go_ret
          exact ⟨rfl, HB.out⟩
set_option maxRecDepth 100000 in
theorem lifted (os : Os) (started : os.Started) (H : Type) (enc : TypeId × Value → H) :
    ReturnsInHanded {} Try.checked os 3 .any (Rows.heapRowsSpec.pre6 enc Try.prog Try.f3 Rows.heapRowsRow.domain false) (Rows.heapRowsSpec.post enc Try.prog Try.f3 false true false false) := by
  refine law_lift (C := Try.checked) own started (by kernel_rfl) Try.func3
    (ChangeSpec.witness6 (enc := enc) (C := Try.checked) false ⟨#[], #[.slice none 0 0, .slice none 0 0, .int .i64 0, .int .i64 0], []⟩ 8 (by kernel_rfl) (by kernel_rfl) (by kernel_rfl) (by kernel_rfl))
    (by kernel_rfl) (by kernel_rfl) rfl (fun ds h => by
      match ds, h with
      | [d1, d2, d3, d4], _ => exact ⟨rfl, rfl, rfl⟩) rfl Try.underlying4 ?_
  intro W base args ds ps hval hA hlt hwt hsh
  rw [Try.params3] at hA hval
  obtain ⟨v0, vs0, d0, ds0, p0, q0, hargs, rfl, rfl, h0, r0⟩ := trodAll_cons hA
  obtain ⟨v1, vs1, d1, ds1, p1, q1, rfl, rfl, rfl, h1, r1⟩ := trodAll_cons r0
  obtain ⟨v2, vs2, d2, ds2, p2, q2, rfl, rfl, rfl, h2, r2⟩ := trodAll_cons r1
  obtain ⟨v3, vs3, d3, ds3, p3, q3, rfl, rfl, rfl, h3, r3⟩ := trodAll_cons r2
  obtain ⟨rfl, rfl, rfl⟩ := trodAll_nil r3
  obtain rfl : args = #[v0, v1, v2, v3] := by cases args; simp_all
  obtain ⟨x0, len0, cap0, rfl⟩ := okWide_slice Try.underlying22 (hval 0 22 v0 rfl rfl)
  obtain ⟨fuel0, hf0⟩ := h0
  obtain ⟨l0, s0, g0⟩ := open_vals (v := .slice x0 len0 cap0) hf0
  obtain ⟨x1, len1, cap1, rfl⟩ := okWide_slice Try.underlying22 (hval 1 22 v1 rfl rfl)
  obtain ⟨fuel1, hf1⟩ := h1
  obtain ⟨l1, s1, g1⟩ := open_vals (v := .slice x1 len1 cap1) hf1
  obtain ⟨a2, rfl, rfl, rfl, w2⟩ := open_int Try.underlying3 (hval 2 3 v2 rfl rfl) h2
  obtain ⟨a3, rfl, rfl, rfl, w3⟩ := open_int Try.underlying3 (hval 3 3 v3 rfl rfl) h3
  -- WALK
  have k2 : okI a2 := by simpa [Lit.wf, okI] using w2
  have k3 : okI a3 := by simpa [Lit.wf, okI] using w3
  by_cases hbig : 200 < l0.length ∨ 200 < l1.length
  · exact (big W _ _ l0 l1 a2 a3 s0 s1 hbig).mono fun e w' h => h
  · exact (small W _ _ l0 l1 a2 a3 k2 k3 s0 s1 g0 g1 (by omega) (by omega)).mono fun e w' h => h
theorem proved : Rows.HeapRowsSaid :=
  OpenClaim.holds_of_wide 3 Try.f3 rfl rfl rfl rfl rfl rfl rfl ⟨rfl, rfl, rfl, rfl, rfl⟩ rfl rfl rfl rfl rfl (by kernel_rfl) Try.func3 (by kernel_rfl)
    (of_decide_eq_true (by kernel_rfl)) (by unfold Func.isWrapper; first | (rw [if_pos (by decide +kernel)]; kernel_rfl) | (rw [if_neg (by decide +kernel)]; exact ⟨rfl, rfl⟩))
    (fun os started H enc _ => lifted os started H enc)
#print axioms proved
end Go.Proofs.Ytoancpjlkhijiaa.heapRows
