/-
  ObjectSpace: for any keys and values of the space, and one more, the law returns true: a class has the pairs of its space, in order; what becomes of the one does not matter to the other; nothing else of the space changes. No condition.
-/
import Derived.Test.YtkocenlglodklaaShowC
import Derived.Test.YtkocenlglodklaaSpaceM
import Derived.Test.YtkocenlglodklaaLocal
import Derived.Test.YtkocenlglodklaaPairs14
import Derived.Test.YtkocenlglodklaaLawA
import Derived.Test.YtkocenlglodklaaShowB
namespace Go.Proofs.Ytkocenlglodklaa.objectSpace
set_option linter.unusedSimpArgs false
open Go.ChangeShapes Go.WideShapes Go.ChangeAt Go.RowKit
open Go.ChangeMaps (open_string)
set_option linter.unusedVariables false
section
variable {w W : World} {Rs : List Res} {h : Nat} {H : HeapM}
theorem okWide_array {P : Program} {w : World} {r : Reach} {base : Nat} {t e : TypeId} {n : Nat} {v : Value} (ht : P.underlying t = some (.array n e)) (h : Value.okWide P w r base t v) : ∃ cs, v = .agg cs ∧ cs.size = P.cellsOf t := by
  simp only [Value.okWide, ht] at h
  obtain ⟨cs, h1, h2, _⟩ := h
  exact ⟨cs, h1, h2⟩
theorem kp_make (S : Sep w Rs W) (i : Nat) (hi : Rs[i]? = some (heapR h ⟨[], 0⟩)) (q j : Nat) (hj : Rs[j]? = some (valB q one1)) :
    Calls Try.prog 19 #[.pointer (some ⟨h, 0, none⟩), .int .i64 3, .string ⟨#[115]⟩, .int .i64 9, .slice (some ⟨q, 0, none⟩) 1 1] W fun e W' => e = .returned (.agg #[.int .i64 4, .int .i64 1, .string ⟨#[]⟩]) ∧ Sep w (Rs.set i (heapR h (spaceH []))) W' :=
  S.make i hi good_empty (by omega) spaceO _ (seesV_one one1 rfl rfl rfl (S.box j hj)) (by simp [spaceO]) rfl (by simp [spaceO]) (by simp [spaceO])
theorem kp_put (S : Sep w Rs W) (i : Nat) (P : List (V × V)) (p : V × V) (hi : Rs[i]? = some (heapR h (spaceH P))) :
    Calls Try.prog 31 #[.pointer (some ⟨h, 0, none⟩), .agg #[.int .i64 4, .int .i64 1, .string ⟨#[]⟩], .agg #[.int .i64 p.1.kind, .int .i64 p.1.n, .string p.1.s], .agg #[.int .i64 p.2.kind, .int .i64 p.2.n, .string p.2.s]] W fun e W' => (∃ b, e = .returned (.bool b)) ∧ Sep w (Rs.set i (heapR h (spaceH (P ++ [p])))) W' := by
  have := S.put i hi r1V p.1 p.2
  rw [← spaceH_snoc] at this
  exact this.mono fun e W' ⟨e1, e2⟩ => ⟨⟨_, e1⟩, e2⟩
theorem kp_keys (S : Sep w Rs W) (i : Nat) (hi : Rs[i]? = some (heapR h H)) (v : V) (L : List V) (hL : (H.pairs v).map (·.1) = L) :
    Calls Try.prog 32 #[.pointer (some ⟨h, 0, none⟩), .agg #[.int .i64 v.kind, .int .i64 v.n, .string v.s]] W fun e W' => ∃ a c, e = .returned (.slice a L.length c) ∧ Sep w (valsR (.slice a L.length c) L :: Rs) W' := by
  refine (S.keys i hi v).mono fun e W' ⟨sv, h1, h2, _⟩ => ?_
  rw [hL] at h2
  obtain ⟨a, c, hsv⟩ := (h2.row 0 rfl).form
  rw [hsv] at h1 h2
  exact ⟨a, c, h1, h2⟩
theorem kp_class (S : Sep w Rs W) (i : Nat) (hi : Rs[i]? = some (heapR h H)) {N : Nat} (F : H.Fit N) (hN : N ≤ 900000) (X : HeapM) (hX : ∀ hs : (⟨#[67]⟩ : ByteArray).size ≤ maxLen, H.mkClass ⟨#[67]⟩ hs [] r1V = some X) (hl : H.last = 1) :
    Calls Try.prog 28 #[.pointer (some ⟨h, 0, none⟩), .string ⟨#[67]⟩, .slice none 0 0, .agg #[.int .i64 4, .int .i64 1, .string ⟨#[]⟩]] W fun e W' => e = .returned (.tuple #[.agg #[.int .i64 4, .int .i64 2, .string ⟨#[]⟩], excZ]) ∧ Sep w (Rs.set i (heapR h X)) W' := by
  have := class_ok S i hi F ⟨#[67]⟩ (by decide) none 0 [] (fun W' _ => seesV_nil W') r1V (by simp; omega)
  rw [hX] at this
  unfold ClassDone at this
  rw [hl] at this
  exact this
theorem kp_putY (S : Sep w Rs W) (i : Nat) (hi : Rs[i]? = some (heapR h H)) (m0 m1 : V) (Y : HeapM) (hY : Y = H.put r1V m0 m1) :
    Calls Try.prog 31 #[.pointer (some ⟨h, 0, none⟩), .agg #[.int .i64 4, .int .i64 1, .string ⟨#[]⟩], .agg #[.int .i64 m0.kind, .int .i64 m0.n, .string m0.s], .agg #[.int .i64 m1.kind, .int .i64 m1.n, .string m1.s]] W fun e W' => (∃ b, e = .returned (.bool b)) ∧ Sep w (Rs.set i (heapR h Y)) W' := by
  subst hY
  exact (S.put i hi r1V m0 m1).mono fun e W' ⟨e1, e2⟩ => ⟨⟨_, e1⟩, e2⟩
theorem kp_name (S : Sep w Rs W) (i : Nat) (hi : Rs[i]? = some (heapR h H)) (v : V) (s : ByteArray) (hk : H.name v = s) :
    Calls Try.prog 24 #[.pointer (some ⟨h, 0, none⟩), .agg #[.int .i64 v.kind, .int .i64 v.n, .string v.s]] W fun e W' => e = .returned (.string s) ∧ Sep w Rs W' :=
  (S.name i hi v).mono fun e W' ⟨e1, e2, _⟩ => ⟨by rw [e1, hk], e2⟩
theorem kp_num (S : Sep w Rs W) (i : Nat) (hi : Rs[i]? = some (heapR h H)) (v : V) (s : Int) (hk : H.num v = s) :
    Calls Try.prog 33 #[.pointer (some ⟨h, 0, none⟩), .agg #[.int .i64 v.kind, .int .i64 v.n, .string v.s]] W fun e W' => e = .returned (.int .i64 s) ∧ Sep w Rs W' :=
  (S.num i hi v).mono fun e W' ⟨e1, e2, _⟩ => ⟨by rw [e1, hk], e2⟩
theorem kp_len (S : Sep w Rs W) (i : Nat) (hi : Rs[i]? = some (heapR h H)) (v : V) (s : Int) (hk : ((H.items v).length : Int) = s) :
    Calls Try.prog 34 #[.pointer (some ⟨h, 0, none⟩), .agg #[.int .i64 v.kind, .int .i64 v.n, .string v.s]] W fun e W' => e = .returned (.int .i64 s) ∧ Sep w Rs W' :=
  (S.len i hi v).mono fun e W' ⟨e1, e2, _⟩ => ⟨by rw [e1, hk], e2⟩
theorem kp_get (S : Sep w Rs W) (i : Nat) (hi : Rs[i]? = some (heapR h H)) (v k : V) (g : Option V) (hg : H.get v k = g) :
    Calls Try.prog 35 #[.pointer (some ⟨h, 0, none⟩), .agg #[.int .i64 v.kind, .int .i64 v.n, .string v.s], .agg #[.int .i64 k.kind, .int .i64 k.n, .string k.s]] W fun e W' => e = .returned (.tuple #[.agg #[.int .i64 (g.getD V.zero).kind, .int .i64 (g.getD V.zero).n, .string (g.getD V.zero).s], .bool g.isSome]) ∧ Sep w Rs W' := by
  have := S.get_ i hi v k
  rw [hg] at this
  exact this.mono fun e W' ⟨e1, e2, _⟩ => ⟨e1, e2⟩
theorem kp_set (S : Sep w Rs W) (i : Nat) (hi : Rs[i]? = some (heapR h H)) (x : V) (ho : H.opens r2V = true ∧ H.canPut r2V newK = true) (Z : HeapM) (hZ : Z = H.put r2V newK x) :
    Calls Try.prog 20 #[.pointer (some ⟨h, 0, none⟩), .agg #[.int .i64 4, .int .i64 2, .string ⟨#[]⟩], .string ⟨#[110, 101, 119]⟩, .agg #[.int .i64 x.kind, .int .i64 x.n, .string x.s]] W fun e W' => e = .returned excZ ∧ Sep w (Rs.set i (heapR h Z)) W' := by
  subst hZ
  have := set_ok S i hi r2V x newS newS_le ho.1
  have hp : H.canPut r2V (keyS newS newS_le) = true := ho.2
  rw [hp] at this
  exact this
end
set_option maxRecDepth 100000 in
set_option maxHeartbeats 12800000 in
theorem walk (w : World) (pa : Option Addr) (pc : Nat) (P : List (V × V)) (hP : SeesR pairC 6 w (.slice pa P.length pc) P) (m0 m1 : V) :
    Calls Try.prog 6 #[.slice pa P.length pc, .agg #[.int .i64 m0.kind, .int .i64 m0.n, .string m0.s, .int .i64 m1.kind, .int .i64 m1.n, .string m1.s]] w fun e W' => e = .returned (.bool true) ∧ Below w.heap.size w W' := by
  obtain ⟨b, hb⟩ : ∃ gx_, (w.heap.size) = gx_ := ⟨_, rfl⟩
  have S := (Sep.start (Below.refl w.heap.size w)).alloc (.cells #[.int .i64 m0.kind, .int .i64 m0.n, .string m0.s, .int .i64 m1.kind, .int .i64 m1.n, .string m1.s] 60)
  rw [hb] at S
  replace S : Sep w (boxR b (.cells #[.int .i64 m0.kind, .int .i64 m0.n, .string m0.s, .int .i64 m1.kind, .int .i64 m1.n, .string m1.s] 60) :: []) _ := S
  have hpl : (P.length : Int) ≤ 9223372036854775807 := by
    obtain ⟨_, _, e, q1, q2, _⟩ := hP
    unfold maxLen at q2; omega
  have HP := Lib.hid (fun (W : World) (hW : Below w.heap.size w W) => hP.keep (w' := W) fun p v hp => cellBelow hp hW)
  have M0 := Lib.hid ((shown_ok (w.alloc (.cells #[.int .i64 m0.kind, .int .i64 m0.n, .string m0.s, .int .i64 m1.kind, .int .i64 m1.n, .string m1.s] 60))).mono fun e W1 (hh : _ ∧ _) => (⟨hh.1, S.later hh.2⟩ : _ ∧ Sep w (boxR b (.cells #[.int .i64 m0.kind, .int .i64 m0.n, .string m0.s, .int .i64 m1.kind, .int .i64 m1.n, .string m1.s] 60) :: []) W1))
  clear S hP
  go_enter Try.func6, Try.ntmps6
  go_wp2_with fail
  try simp only [hb]
  refine M0.out.mono ?_
  rintro e w1 ⟨rfl, S⟩
  clear M0 hb
  have M := Lib.hid (S.new)
  clear S
  go_wp2_with fail
  refine M.out.mono ?_
  rintro e w2 ⟨h, rfl, S, -⟩
  clear M
  replace S : Sep w (heapR h ⟨[], 0⟩ :: boxR b (.cells #[.int .i64 m0.kind, .int .i64 m0.n, .string m0.s, .int .i64 m1.kind, .int .i64 m1.n, .string m1.s] 60) :: []) _ := S
  have M := Lib.hid ((num_ok w2 1).mono fun e W1 (hh : _ ∧ _) => (⟨hh.1, S.later hh.2⟩ : _ ∧ Sep w (heapR h ⟨[], 0⟩ :: boxR b (.cells #[.int .i64 m0.kind, .int .i64 m0.n, .string m0.s, .int .i64 m1.kind, .int .i64 m1.n, .string m1.s] 60) :: []) W1))
  clear S
  go_wp2_with fail
  refine M.out.mono ?_
  rintro e w3 ⟨rfl, S⟩
  clear M
  obtain ⟨xs, hxs⟩ : ∃ gx_, (w3.heap.size) = gx_ := ⟨_, rfl⟩
  replace S := (S.alloc (.cells #[.int .i64 one1.kind, .int .i64 one1.n, .string one1.s] 33))
  simp only [World.size_alloc, hxs] at S
  replace S : Sep w (boxR xs (.cells #[.int .i64 one1.kind, .int .i64 one1.n, .string one1.s] 33) :: heapR h ⟨[], 0⟩ :: boxR b (.cells #[.int .i64 m0.kind, .int .i64 m0.n, .string m0.s, .int .i64 m1.kind, .int .i64 m1.n, .string m1.s] 60) :: []) _ := S
  have M := Lib.hid (kp_make S 1 rfl xs 0 rfl)
  clear S
  go_wp2_with fail
  try simp only [hxs]
  refine M.out.mono ?_
  rintro e w4 ⟨rfl, S⟩
  clear M hxs
  replace S : Sep w (boxR xs (.cells #[.int .i64 one1.kind, .int .i64 one1.n, .string one1.s] 33) :: heapR h (spaceH []) :: boxR b (.cells #[.int .i64 m0.kind, .int .i64 m0.n, .string m0.s, .int .i64 m1.kind, .int .i64 m1.n, .string m1.s] 60) :: []) _ := S
  obtain ⟨x7, hx7⟩ : ∃ gx_, (w4.heap.size) = gx_ := ⟨_, rfl⟩
  replace S := (S.alloc (.cells #[.int .i64 4, .int .i64 1, .string ⟨#[]⟩] 33))
  simp only [World.size_alloc, hx7] at S
  replace S : Sep w (boxR x7 (.cells #[.int .i64 4, .int .i64 1, .string ⟨#[]⟩] 33) :: boxR xs (.cells #[.int .i64 one1.kind, .int .i64 one1.n, .string one1.s] 33) :: heapR h (spaceH []) :: boxR b (.cells #[.int .i64 m0.kind, .int .i64 m0.n, .string m0.s, .int .i64 m1.kind, .int .i64 m1.n, .string m1.s] 60) :: []) _ := S
  replace S : Hid (Sep w (boxR x7 (.cells #[.int .i64 4, .int .i64 1, .string ⟨#[]⟩] 33) :: boxR xs (.cells #[.int .i64 one1.kind, .int .i64 one1.n, .string one1.s] 33) :: heapR h (spaceH (P.take 0)) :: boxR b (.cells #[.int .i64 m0.kind, .int .i64 m0.n, .string m0.s, .int .i64 m1.kind, .int .i64 m1.n, .string m1.s] 60) :: []) _) := Lib.hid S
  go_wp2
  try simp only [hx7]
  clear hx7
  go_loopw [8] (fun kv wr => ∃ k : Nat, k ≤ 20 ∧ k ≤ P.length ∧ kv = .int .i64 k ∧ Sep w (boxR x7 (.cells #[.int .i64 4, .int .i64 1, .string ⟨#[]⟩] 33) :: boxR xs (.cells #[.int .i64 one1.kind, .int .i64 one1.n, .string one1.s] 33) :: heapR h (spaceH (P.take k)) :: boxR b (.cells #[.int .i64 m0.kind, .int .i64 m0.n, .string m0.s, .int .i64 m1.kind, .int .i64 m1.n, .string m1.s] 60) :: []) wr) (fun kv _ => 20 - (intOf kv).toNat)
  case atStart => exact ⟨0, by omega, by omega, rfl, S.out⟩
  case round =>
    clear S
    obtain ⟨k, hk20, hkp, rfl, S⟩ := hrel
    have hk20' : (k : Int) ≤ 20 := by omega
    obtain ⟨d, hd⟩ : ∃ gx_, (decide (k < P.length ∧ k < 20)) = gx_ := ⟨_, rfl⟩
    have HD := Lib.hid hd
    have HKP := Lib.hid (And.intro hkp hk20)
    clear hd hk20
    replace S := Lib.hid S
    go_upto_region 7 with fail
    go_cut [37] from 30 to 52 (fun s37 wx => s37 = .bool d ∧ wx = wr)
    case first =>
      have HD2 := HD.out
      by_cases a1 : k < P.length
      · have b1 : (k : Int) < P.length := by omega
        by_cases a2 : k < 20
        · have b2 : (k : Int) < 20 := by omega
          obtain rfl : d = true := by rw [← HD2]; simp [a1, a2]
          clear a1 a2 HD2 HD hkp
          go_wp2_with fail
          go_meet
          exact ⟨rfl, rfl⟩
        · have b2 : ((k : Int) < 20) = False := by simp; omega
          obtain rfl : d = false := by rw [← HD2]; simp [a2]
          clear a1 a2 HD2 HD hkp
          go_wp2_with fail
          go_meet
          exact ⟨rfl, rfl⟩
      · have b1 : (P.length : Int) ≤ k := by omega
        obtain rfl : d = false := by rw [← HD2]; simp [a1]
        clear a1 HD2 HD hkp
        go_wp2_with fail
        go_meet
        exact ⟨rfl, rfl⟩
    case rest =>
      obtain ⟨rfl, rfl⟩ := hcut
      replace S := S.out
      clear hkp
      cases d with
      | true =>
        obtain ⟨a1, a2⟩ := of_decide_eq_true HD.out
        have b1 : (k : Int) < P.length := by omega
        obtain ⟨p, hp⟩ : ∃ p, P[k]? = some p := ⟨P[k], by simp [a1]⟩
        obtain ⟨g, og, rfl⟩ : ∃ g og, pa = some ⟨g, og, none⟩ := by
          obtain ⟨_, _, e0, _, _, p3⟩ := HP.out _ S.below
          cases e0
          rcases p3 with hh | ⟨g, og, hh, _⟩
          · subst hh; simp at hp
          · exact ⟨g, og, hh⟩
        have hcell : ∀ W, Below w.heap.size w W → ∀ j u, (pairC p)[j]? = some u → W.cell? ⟨g, og + k * 6 + j, none⟩ = some u := fun W hW => by
          obtain ⟨_, _, e0, _, _, p3⟩ := HP.out _ hW
          cases e0
          rcases p3 with hh | ⟨g1, o1, hh, hcl⟩
          · subst hh; simp at hp
          · cases hh; exact hcl k p hp
        have hnx : P.take (k + 1) = P.take k ++ [p] := by rw [List.take_add_one, hp]; rfl
        have HX := Lib.hid (And.intro hnx (And.intro a1 a2))
        obtain ⟨baseA, hbaseA⟩ : ∃ base, base = boxR x7 (.cells #[.int .i64 4, .int .i64 1, .string ⟨#[]⟩] 33) :: boxR xs (.cells #[.int .i64 one1.kind, .int .i64 one1.n, .string one1.s] 33) :: heapR h (spaceH (P.take k)) :: boxR b (.cells #[.int .i64 m0.kind, .int .i64 m0.n, .string m0.s, .int .i64 m1.kind, .int .i64 m1.n, .string m1.s] 60) :: [] := ⟨_, rfl⟩
        have HbaseA := Lib.hid hbaseA
        have KbaseA : Hid (∀ W (Q : List Res), Sep w (Q ++ baseA) W → W.cell? ⟨x7, 0, none⟩ = some (.int .i64 4) ∧ W.cell? ⟨x7, 1, none⟩ = some (.int .i64 1) ∧ W.cell? ⟨x7, 2, none⟩ = some (.string ⟨#[]⟩) ∧ W.cell? ⟨g, og + k * 6, none⟩ = some (.int .i64 p.1.kind) ∧ W.cell? ⟨g, og + k * 6 + 1, none⟩ = some (.int .i64 p.1.n) ∧ W.cell? ⟨g, og + k * 6 + 2, none⟩ = some (.string p.1.s) ∧ W.cell? ⟨g, og + k * 6 + 3, none⟩ = some (.int .i64 p.2.kind) ∧ W.cell? ⟨g, og + k * 6 + 3 + 1, none⟩ = some (.int .i64 p.2.n) ∧ W.cell? ⟨g, og + k * 6 + 3 + 2, none⟩ = some (.string p.2.s)) := Lib.hid fun W Q T => by
          rw [hbaseA] at T
          have i0 := T.box (b := x7) (o := .cells #[.int .i64 4, .int .i64 1, .string ⟨#[]⟩] 33) (Q.length + 0) (by rw [List.getElem?_append_right (by omega), Nat.add_sub_cancel_left]; rfl)
          exact ⟨cellAt i0 0 rfl, cellAt i0 1 rfl, cellAt i0 2 rfl, ⟨hcell W T.below 0 _ rfl, hcell W T.below 1 _ rfl, hcell W T.below 2 _ rfl, hcell W T.below 3 _ rfl, hcell W T.below 4 _ rfl, hcell W T.below 5 _ rfl⟩⟩
        obtain ⟨baseB, hbaseB⟩ : ∃ base, base = boxR x7 (.cells #[.int .i64 4, .int .i64 1, .string ⟨#[]⟩] 33) :: boxR xs (.cells #[.int .i64 one1.kind, .int .i64 one1.n, .string one1.s] 33) :: heapR h (spaceH (P.take k ++ [p])) :: boxR b (.cells #[.int .i64 m0.kind, .int .i64 m0.n, .string m0.s, .int .i64 m1.kind, .int .i64 m1.n, .string m1.s] 60) :: [] := ⟨_, rfl⟩
        have HbaseB := Lib.hid hbaseB
        have KbaseB : Hid (∀ W (Q : List Res), Sep w (Q ++ baseB) W → W.cell? ⟨x7, 0, none⟩ = some (.int .i64 4) ∧ W.cell? ⟨x7, 1, none⟩ = some (.int .i64 1) ∧ W.cell? ⟨x7, 2, none⟩ = some (.string ⟨#[]⟩) ∧ W.cell? ⟨g, og + k * 6, none⟩ = some (.int .i64 p.1.kind) ∧ W.cell? ⟨g, og + k * 6 + 1, none⟩ = some (.int .i64 p.1.n) ∧ W.cell? ⟨g, og + k * 6 + 2, none⟩ = some (.string p.1.s) ∧ W.cell? ⟨g, og + k * 6 + 3, none⟩ = some (.int .i64 p.2.kind) ∧ W.cell? ⟨g, og + k * 6 + 3 + 1, none⟩ = some (.int .i64 p.2.n) ∧ W.cell? ⟨g, og + k * 6 + 3 + 2, none⟩ = some (.string p.2.s)) := Lib.hid fun W Q T => by
          rw [hbaseB] at T
          have i0 := T.box (b := x7) (o := .cells #[.int .i64 4, .int .i64 1, .string ⟨#[]⟩] 33) (Q.length + 0) (by rw [List.getElem?_append_right (by omega), Nat.add_sub_cancel_left]; rfl)
          exact ⟨cellAt i0 0 rfl, cellAt i0 1 rfl, cellAt i0 2 rfl, ⟨hcell W T.below 0 _ rfl, hcell W T.below 1 _ rfl, hcell W T.below 2 _ rfl, hcell W T.below 3 _ rfl, hcell W T.below 4 _ rfl, hcell W T.below 5 _ rfl⟩⟩
        have KP : Hid (∀ W (Q : List Res), Sep w (Q ++ baseA) W → Calls Try.prog 31 #[.pointer (some ⟨h, 0, none⟩), .agg #[.int .i64 4, .int .i64 1, .string ⟨#[]⟩], .agg #[.int .i64 p.1.kind, .int .i64 p.1.n, .string p.1.s], .agg #[.int .i64 p.2.kind, .int .i64 p.2.n, .string p.2.s]] W fun e W' => (∃ b, e = .returned (.bool b)) ∧ Sep w (Q ++ baseB) W') := Lib.hid fun W Q T => by
          rw [HbaseA.out] at T
          rw [HbaseB.out]
          have hh := kp_put T (Q.length + 2) (P.take k) p (by rw [List.getElem?_append_right (by omega), Nat.add_sub_cancel_left]; rfl)
          rw [List.set_append_right _ _ (by omega), Nat.add_sub_cancel_left] at hh
          exact hh
        have c6 := hcell wc S.below
        have c60 : wc.cell? ⟨g, og + k * 6, none⟩ = some (.int .i64 p.1.kind) := c6 0 _ rfl
        have c61 : wc.cell? ⟨g, og + k * 6 + 1, none⟩ = some (.int .i64 p.1.n) := c6 1 _ rfl
        have c62 : wc.cell? ⟨g, og + k * 6 + 2, none⟩ = some (.string p.1.s) := c6 2 _ rfl
        have c63 : wc.cell? ⟨g, og + k * 6 + 3, none⟩ = some (.int .i64 p.2.kind) := c6 3 _ rfl
        have c64 : wc.cell? ⟨g, og + k * 6 + 3 + 1, none⟩ = some (.int .i64 p.2.n) := c6 4 _ rfl
        have c65 : wc.cell? ⟨g, og + k * 6 + 3 + 2, none⟩ = some (.string p.2.s) := c6 5 _ rfl
        clear c6 hnx a1 a2 hp
        replace S : Sep w baseA wc := by rw [hbaseA]; exact S
        replace S := Lib.hid S
        clear hbaseA hbaseB
        go_upto_region 9 with fail
        have T0 : Sep w ([] ++ baseA) _ := S.out.drew
        clear S
        refine wp_region_held_drew (S := fun W => W.cell? ⟨x7, 0, none⟩ = some (.int .i64 4) ∧ W.cell? ⟨x7, 1, none⟩ = some (.int .i64 1) ∧ W.cell? ⟨x7, 2, none⟩ = some (.string ⟨#[]⟩) ∧ W.cell? ⟨g, og + k * 6, none⟩ = some (.int .i64 p.1.kind) ∧ W.cell? ⟨g, og + k * 6 + 1, none⟩ = some (.int .i64 p.1.n) ∧ W.cell? ⟨g, og + k * 6 + 2, none⟩ = some (.string p.1.s) ∧ W.cell? ⟨g, og + k * 6 + 3, none⟩ = some (.int .i64 p.2.kind) ∧ W.cell? ⟨g, og + k * 6 + 3 + 1, none⟩ = some (.int .i64 p.2.n) ∧ W.cell? ⟨g, og + k * 6 + 3 + 2, none⟩ = some (.string p.2.s)) (by kernel_rfl) (KbaseA.out _ [] T0) (fun hH => ?_)
        refine takeT 0 hH (hy := .inl ⟨by rfl, by (intro w hSw; try obtain ⟨u0, u1, u2, v0, v1, v2, v3, v4, v5⟩ := hSw); (go_simp; try rfl)⟩) (h := ?_)
        simp only [Act.put, List.setIfInBounds_toArray, List.set_cons_zero, List.set_cons_succ]
        refine takeT 1 hH (hy := .inl ⟨by rfl, by (intro w hSw; try obtain ⟨u0, u1, u2, v0, v1, v2, v3, v4, v5⟩ := hSw); (go_simp; try rfl)⟩) (h := ?_)
        simp only [Act.put, List.setIfInBounds_toArray, List.set_cons_zero, List.set_cons_succ]
        refine takeT 2 hH (hy := .inl ⟨by rfl, by (intro w hSw; try obtain ⟨u0, u1, u2, v0, v1, v2, v3, v4, v5⟩ := hSw); (go_simp; try rfl)⟩) (h := ?_)
        simp only [Act.put, List.setIfInBounds_toArray, List.set_cons_zero, List.set_cons_succ]
        refine takeT 3 hH (hy := .inl ⟨by rfl, by (intro w hSw; try obtain ⟨u0, u1, u2, v0, v1, v2, v3, v4, v5⟩ := hSw); (go_simp; try rfl)⟩) (h := ?_)
        simp only [Act.put, List.setIfInBounds_toArray, List.set_cons_zero, List.set_cons_succ]
        refine takeT 4 hH (hy := .inl ⟨by rfl, by (intro w hSw; try obtain ⟨u0, u1, u2, v0, v1, v2, v3, v4, v5⟩ := hSw); (go_simp; try rfl)⟩) (h := ?_)
        simp only [Act.put, List.setIfInBounds_toArray, List.set_cons_zero, List.set_cons_succ]
        refine takeT 5 hH (hy := .inl ⟨by rfl, by (intro w hSw; try obtain ⟨u0, u1, u2, v0, v1, v2, v3, v4, v5⟩ := hSw); (go_simp; try rfl)⟩) (h := ?_)
        simp only [Act.put, List.setIfInBounds_toArray, List.set_cons_zero, List.set_cons_succ]
        refine takeT 6 hH (hy := .inl ⟨by rfl, by (intro w hSw; try obtain ⟨u0, u1, u2, v0, v1, v2, v3, v4, v5⟩ := hSw); (go_simp; try rfl)⟩) (h := ?_)
        simp only [Act.put, List.setIfInBounds_toArray, List.set_cons_zero, List.set_cons_succ]
        refine takeT 7 hH (hy := .inl ⟨by rfl, by (intro w hSw; try obtain ⟨u0, u1, u2, v0, v1, v2, v3, v4, v5⟩ := hSw); (go_simp; try rfl)⟩) (h := ?_)
        simp only [Act.put, List.setIfInBounds_toArray, List.set_cons_zero, List.set_cons_succ]
        refine takeT 8 hH (hy := .inl ⟨by rfl, by (intro w hSw; try obtain ⟨u0, u1, u2, v0, v1, v2, v3, v4, v5⟩ := hSw); (go_simp; try rfl)⟩) (h := ?_)
        simp only [Act.put, List.setIfInBounds_toArray, List.set_cons_zero, List.set_cons_succ]
        refine takeT 9 hH (hy := .inl ⟨by rfl, by (intro w hSw; try obtain ⟨u0, u1, u2, v0, v1, v2, v3, v4, v5⟩ := hSw); (go_simp; try rfl)⟩) (h := ?_)
        simp only [Act.put, List.setIfInBounds_toArray, List.set_cons_zero, List.set_cons_succ]
        refine takeT 10 hH (hy := .inl ⟨by rfl, by (intro w hSw; try obtain ⟨u0, u1, u2, v0, v1, v2, v3, v4, v5⟩ := hSw); (go_simp; try rfl)⟩) (h := ?_)
        simp only [Act.put, List.setIfInBounds_toArray, List.set_cons_zero, List.set_cons_succ]
        refine takeT 11 hH (hy := .inl ⟨by rfl, by (intro w hSw; try obtain ⟨u0, u1, u2, v0, v1, v2, v3, v4, v5⟩ := hSw); (go_simp; try rfl)⟩) (h := ?_)
        simp only [Act.put, List.setIfInBounds_toArray, List.set_cons_zero, List.set_cons_succ]
        refine readyT [12] ?_
        refine consT (fun K hK => ?_) AllReadyH.nil
        go_simp
        go_wp2_with (go_at_call 31; refine (KP.out _ [] T0).mono ?_; rintro e w1 ⟨⟨pb, rfl⟩, T1⟩)
        clear hH
        refine hK.out _ _ (KbaseB.out _ [] T1) (fun hH => ?_)
        clear hK K
        refine wpAnyH_done (by kernel_rfl) ?_ _
        as_aux_lemma =>
          have S9 : Hid (Sep w (boxR x7 (.cells #[.int .i64 4, .int .i64 1, .string ⟨#[]⟩] 33) :: boxR xs (.cells #[.int .i64 one1.kind, .int .i64 one1.n, .string one1.s] 33) :: heapR h (spaceH (P.take k ++ [p])) :: boxR b (.cells #[.int .i64 m0.kind, .int .i64 m0.n, .string m0.s, .int .i64 m1.kind, .int .i64 m1.n, .string m1.s] 60) :: []) _) := Lib.hid (by rw [← HbaseB.out]; exact T1)
          clear KP KbaseA KbaseB
          go_wp2
          refine ⟨⟨k + 1, by have := HX.out.2.2; omega, by have := HX.out.2.1; omega, by go_num, by rw [HX.out.1]; exact S9.out⟩, by have := HX.out.2.2; simp [intOf]; omega⟩
      | false =>
        have OK : Hid (SpaceOk (spaceH (P.take k)) k) := Lib.hid (by
          have h2 := HKP.out.1
          have : ∀ j, j ≤ P.length → SpaceOk (spaceH (P.take j)) j := fun j => by
            induction j with
            | zero => intro _; exact SpaceOk.empty
            | succ j ih =>
              intro hj
              have hp : P[j]? = some P[j] := by simp
              rw [List.take_add_one, hp]
              show SpaceOk (spaceH (P.take j ++ [P[j]])) (j + 1)
              rw [spaceH_snoc]
              exact (ih (by omega)).put _ _
          exact this k h2)
        obtain ⟨y4, hy4⟩ : ∃ y : V, y = ⟨2, 4, ⟨#[]⟩, by decide, by decide, by decide⟩ := ⟨_, rfl⟩
        obtain ⟨X, Y, Z, ps, BA⟩ := space_facts OK.out HKP.out.2 m0 m1 y4
        have HB := Lib.hid BA
        have Hy := Lib.hid hy4
        obtain ⟨H, hH⟩ : ∃ gx_, (spaceH (P.take k)) = gx_ := ⟨_, rfl⟩
        rw [hH] at HB OK
        replace S : Sep w (boxR x7 (.cells #[.int .i64 4, .int .i64 1, .string ⟨#[]⟩] 33) :: boxR xs (.cells #[.int .i64 one1.kind, .int .i64 one1.n, .string one1.s] 33) :: heapR h H :: boxR b (.cells #[.int .i64 m0.kind, .int .i64 m0.n, .string m0.s, .int .i64 m1.kind, .int .i64 m1.n, .string m1.s] 60) :: []) wc := by rw [← hH]; exact S
        clear BA hy4 hH HD
        obtain ⟨ks, hks⟩ : ∃ ks, ps.map (·.1) = ks := ⟨_, rfl⟩
        have HK := Lib.hid hks
        clear hks
        have d0 := cellAt (S.box (b := x7) 0 rfl) 0 (v := .int .i64 4) rfl
        have d1 := cellAt (S.box (b := x7) 0 rfl) 1 (v := .int .i64 1) rfl
        have d2 := cellAt (S.box (b := x7) 0 rfl) 2 (v := .string ⟨#[]⟩) rfl
        have M := Lib.hid (kp_keys S 2 rfl r1V ks (by rw [HB.out.p0, HK.out]))
        clear S
        go_wp2_with fail
        refine M.out.mono ?_
        rintro e w11 ⟨ka, kc, rfl, S⟩
        clear M d0 d1 d2
        replace S : Sep w (valsR (.slice ka ks.length kc) ks :: boxR x7 (.cells #[.int .i64 4, .int .i64 1, .string ⟨#[]⟩] 33) :: boxR xs (.cells #[.int .i64 one1.kind, .int .i64 one1.n, .string one1.s] 33) :: heapR h H :: boxR b (.cells #[.int .i64 m0.kind, .int .i64 m0.n, .string m0.s, .int .i64 m1.kind, .int .i64 m1.n, .string m1.s] 60) :: []) _ := S
        have d0 := cellAt (S.box (b := x7) 1 rfl) 0 (v := .int .i64 4) rfl
        have d1 := cellAt (S.box (b := x7) 1 rfl) 1 (v := .int .i64 1) rfl
        have d2 := cellAt (S.box (b := x7) 1 rfl) 2 (v := .string ⟨#[]⟩) rfl
        have M := Lib.hid (kp_class S 3 rfl OK.out.fit (by have := HKP.out.2; omega) X HB.out.mkc OK.out.last)
        clear S
        go_wp2_with fail
        refine M.out.mono ?_
        rintro e w12 ⟨rfl, S⟩
        clear M d0 d1 d2
        replace S : Sep w (valsR (.slice ka ks.length kc) ks :: boxR x7 (.cells #[.int .i64 4, .int .i64 1, .string ⟨#[]⟩] 33) :: boxR xs (.cells #[.int .i64 one1.kind, .int .i64 one1.n, .string one1.s] 33) :: heapR h X :: boxR b (.cells #[.int .i64 m0.kind, .int .i64 m0.n, .string m0.s, .int .i64 m1.kind, .int .i64 m1.n, .string m1.s] 60) :: []) _ := S
        obtain ⟨x10, hx10⟩ : ∃ gx_, (w12.heap.size) = gx_ := ⟨_, rfl⟩
        replace S := ((S.alloc (.cells #[.int .i64 4, .int .i64 2, .string ⟨#[]⟩] 33)).alloc (.cells #[.string ⟨#[]⟩, .int .i64 0, .int .i64 0, .string ⟨#[]⟩, .bool false] 45))
        simp only [World.size_alloc, hx10] at S
        replace S : Sep w (boxR (x10 + 1) (.cells #[.string ⟨#[]⟩, .int .i64 0, .int .i64 0, .string ⟨#[]⟩, .bool false] 45) :: boxR x10 (.cells #[.int .i64 4, .int .i64 2, .string ⟨#[]⟩] 33) :: valsR (.slice ka ks.length kc) ks :: boxR x7 (.cells #[.int .i64 4, .int .i64 1, .string ⟨#[]⟩] 33) :: boxR xs (.cells #[.int .i64 one1.kind, .int .i64 one1.n, .string one1.s] 33) :: heapR h X :: boxR b (.cells #[.int .i64 m0.kind, .int .i64 m0.n, .string m0.s, .int .i64 m1.kind, .int .i64 m1.n, .string m1.s] 60) :: []) _ := S
        have EZ : ∀ W, (binOp .neq 45 excZ excZ).run Try.prog W = .ok (.bool false) W := fun W => by go_simp
        have d0 := cellAt (S.box (b := x10) 1 rfl) 0 (v := .int .i64 4) rfl
        have d1 := cellAt (S.box (b := x10) 1 rfl) 1 (v := .int .i64 2) rfl
        have d2 := cellAt (S.box (b := x10) 1 rfl) 2 (v := .string ⟨#[]⟩) rfl
        have d3 := cellAt (S.box (b := x10 + 1) 0 rfl) 0 (v := .string ⟨#[]⟩) rfl
        have d4 := cellAt (S.box (b := x10 + 1) 0 rfl) 1 (v := .int .i64 0) rfl
        have d5 := cellAt (S.box (b := x10 + 1) 0 rfl) 2 (v := .int .i64 0) rfl
        have d6 := cellAt (S.box (b := x10 + 1) 0 rfl) 3 (v := .string ⟨#[]⟩) rfl
        have d7 := cellAt (S.box (b := x10 + 1) 0 rfl) 4 (v := .bool false) rfl
        have M := Lib.hid (kp_keys S 5 rfl r2V ks (by rw [HB.out.pc.1, HK.out]))
        clear S
        go_wp2_with fail
        try simp only [hx10]
        refine M.out.mono ?_
        rintro e w13 ⟨va, vc, rfl, S⟩
        clear M d0 d1 d2 d3 d4 d5 d6 d7 hx10
        replace S : Sep w (valsR (.slice va ks.length vc) ks :: boxR (x10 + 1) (.cells #[.string ⟨#[]⟩, .int .i64 0, .int .i64 0, .string ⟨#[]⟩, .bool false] 45) :: boxR x10 (.cells #[.int .i64 4, .int .i64 2, .string ⟨#[]⟩] 33) :: valsR (.slice ka ks.length kc) ks :: boxR x7 (.cells #[.int .i64 4, .int .i64 1, .string ⟨#[]⟩] 33) :: boxR xs (.cells #[.int .i64 one1.kind, .int .i64 one1.n, .string one1.s] 33) :: heapR h X :: boxR b (.cells #[.int .i64 m0.kind, .int .i64 m0.n, .string m0.s, .int .i64 m1.kind, .int .i64 m1.n, .string m1.s] 60) :: []) _ := S
        have M1 := (same_vals w13 _ _ ks ks (S.row 0 rfl).sees' (S.row 3 rfl).sees').mono fun e W1 (hh : _ ∧ _) => (⟨by rw [hh.1]; simp, by obtain ⟨q, e2⟩ := hh.2; rw [e2]; exact (S.drewN q).tail⟩ : e = .returned (.bool true) ∧ Sep w (boxR (x10 + 1) (.cells #[.string ⟨#[]⟩, .int .i64 0, .int .i64 0, .string ⟨#[]⟩, .bool false] 45) :: boxR x10 (.cells #[.int .i64 4, .int .i64 2, .string ⟨#[]⟩] 33) :: valsR (.slice ka ks.length kc) ks :: boxR x7 (.cells #[.int .i64 4, .int .i64 1, .string ⟨#[]⟩] 33) :: boxR xs (.cells #[.int .i64 one1.kind, .int .i64 one1.n, .string one1.s] 33) :: heapR h X :: boxR b (.cells #[.int .i64 m0.kind, .int .i64 m0.n, .string m0.s, .int .i64 m1.kind, .int .i64 m1.n, .string m1.s] 60) :: []) W1)
        have M := Lib.hid (M1)
        clear S
        go_wp2_with fail
        refine M.out.mono ?_
        rintro e w14 ⟨rfl, S⟩
        clear M
        replace S : Sep w (boxR (x10 + 1) (.cells #[.string ⟨#[]⟩, .int .i64 0, .int .i64 0, .string ⟨#[]⟩, .bool false] 45) :: boxR x10 (.cells #[.int .i64 4, .int .i64 2, .string ⟨#[]⟩] 33) :: valsR (.slice ka ks.length kc) ks :: boxR x7 (.cells #[.int .i64 4, .int .i64 1, .string ⟨#[]⟩] 33) :: boxR xs (.cells #[.int .i64 one1.kind, .int .i64 one1.n, .string one1.s] 33) :: heapR h X :: boxR b (.cells #[.int .i64 m0.kind, .int .i64 m0.n, .string m0.s, .int .i64 m1.kind, .int .i64 m1.n, .string m1.s] 60) :: []) _ := S
        clear M1
        have d0 := cellAt (S.box (b := x7) 3 rfl) 0 (v := .int .i64 4) rfl
        have d1 := cellAt (S.box (b := x7) 3 rfl) 1 (v := .int .i64 1) rfl
        have d2 := cellAt (S.box (b := x7) 3 rfl) 2 (v := .string ⟨#[]⟩) rfl
        have M := Lib.hid (kp_keys S 5 rfl r1V ks (by rw [HB.out.pc.2, HK.out]))
        clear S
        go_wp2_with fail
        refine M.out.mono ?_
        rintro e w15 ⟨va, vc, rfl, S⟩
        clear M d0 d1 d2
        replace S : Sep w (valsR (.slice va ks.length vc) ks :: boxR (x10 + 1) (.cells #[.string ⟨#[]⟩, .int .i64 0, .int .i64 0, .string ⟨#[]⟩, .bool false] 45) :: boxR x10 (.cells #[.int .i64 4, .int .i64 2, .string ⟨#[]⟩] 33) :: valsR (.slice ka ks.length kc) ks :: boxR x7 (.cells #[.int .i64 4, .int .i64 1, .string ⟨#[]⟩] 33) :: boxR xs (.cells #[.int .i64 one1.kind, .int .i64 one1.n, .string one1.s] 33) :: heapR h X :: boxR b (.cells #[.int .i64 m0.kind, .int .i64 m0.n, .string m0.s, .int .i64 m1.kind, .int .i64 m1.n, .string m1.s] 60) :: []) _ := S
        have M1 := (same_vals w15 _ _ ks ks (S.row 0 rfl).sees' (S.row 3 rfl).sees').mono fun e W1 (hh : _ ∧ _) => (⟨by rw [hh.1]; simp, by obtain ⟨q, e2⟩ := hh.2; rw [e2]; exact (S.drewN q).tail⟩ : e = .returned (.bool true) ∧ Sep w (boxR (x10 + 1) (.cells #[.string ⟨#[]⟩, .int .i64 0, .int .i64 0, .string ⟨#[]⟩, .bool false] 45) :: boxR x10 (.cells #[.int .i64 4, .int .i64 2, .string ⟨#[]⟩] 33) :: valsR (.slice ka ks.length kc) ks :: boxR x7 (.cells #[.int .i64 4, .int .i64 1, .string ⟨#[]⟩] 33) :: boxR xs (.cells #[.int .i64 one1.kind, .int .i64 one1.n, .string one1.s] 33) :: heapR h X :: boxR b (.cells #[.int .i64 m0.kind, .int .i64 m0.n, .string m0.s, .int .i64 m1.kind, .int .i64 m1.n, .string m1.s] 60) :: []) W1)
        have M := Lib.hid (M1)
        clear S
        go_wp2_with fail
        refine M.out.mono ?_
        rintro e w16 ⟨rfl, S⟩
        clear M
        replace S : Sep w (boxR (x10 + 1) (.cells #[.string ⟨#[]⟩, .int .i64 0, .int .i64 0, .string ⟨#[]⟩, .bool false] 45) :: boxR x10 (.cells #[.int .i64 4, .int .i64 2, .string ⟨#[]⟩] 33) :: valsR (.slice ka ks.length kc) ks :: boxR x7 (.cells #[.int .i64 4, .int .i64 1, .string ⟨#[]⟩] 33) :: boxR xs (.cells #[.int .i64 one1.kind, .int .i64 one1.n, .string one1.s] 33) :: heapR h X :: boxR b (.cells #[.int .i64 m0.kind, .int .i64 m0.n, .string m0.s, .int .i64 m1.kind, .int .i64 m1.n, .string m1.s] 60) :: []) _ := S
        clear M1
        have d0 := cellAt (S.box (b := x7) 3 rfl) 0 (v := .int .i64 4) rfl
        have d1 := cellAt (S.box (b := x7) 3 rfl) 1 (v := .int .i64 1) rfl
        have d2 := cellAt (S.box (b := x7) 3 rfl) 2 (v := .string ⟨#[]⟩) rfl
        have M := Lib.hid (kp_num S 5 rfl r1V 9 HB.out.tell.1)
        clear S
        go_wp2_with fail
        refine M.out.mono ?_
        rintro e w17 ⟨rfl, S⟩
        clear M d0 d1 d2
        replace S : Sep w (boxR (x10 + 1) (.cells #[.string ⟨#[]⟩, .int .i64 0, .int .i64 0, .string ⟨#[]⟩, .bool false] 45) :: boxR x10 (.cells #[.int .i64 4, .int .i64 2, .string ⟨#[]⟩] 33) :: valsR (.slice ka ks.length kc) ks :: boxR x7 (.cells #[.int .i64 4, .int .i64 1, .string ⟨#[]⟩] 33) :: boxR xs (.cells #[.int .i64 one1.kind, .int .i64 one1.n, .string one1.s] 33) :: heapR h X :: boxR b (.cells #[.int .i64 m0.kind, .int .i64 m0.n, .string m0.s, .int .i64 m1.kind, .int .i64 m1.n, .string m1.s] 60) :: []) _ := S
        have d0 := cellAt (S.box (b := x7) 3 rfl) 0 (v := .int .i64 4) rfl
        have d1 := cellAt (S.box (b := x7) 3 rfl) 1 (v := .int .i64 1) rfl
        have d2 := cellAt (S.box (b := x7) 3 rfl) 2 (v := .string ⟨#[]⟩) rfl
        have M := Lib.hid (kp_len S 5 rfl r1V 1 (by rw [HB.out.tell.2.1]; rfl))
        clear S
        go_wp2_with fail
        refine M.out.mono ?_
        rintro e w18 ⟨rfl, S⟩
        clear M d0 d1 d2
        replace S : Sep w (boxR (x10 + 1) (.cells #[.string ⟨#[]⟩, .int .i64 0, .int .i64 0, .string ⟨#[]⟩, .bool false] 45) :: boxR x10 (.cells #[.int .i64 4, .int .i64 2, .string ⟨#[]⟩] 33) :: valsR (.slice ka ks.length kc) ks :: boxR x7 (.cells #[.int .i64 4, .int .i64 1, .string ⟨#[]⟩] 33) :: boxR xs (.cells #[.int .i64 one1.kind, .int .i64 one1.n, .string one1.s] 33) :: heapR h X :: boxR b (.cells #[.int .i64 m0.kind, .int .i64 m0.n, .string m0.s, .int .i64 m1.kind, .int .i64 m1.n, .string m1.s] 60) :: []) _ := S
        have d0 := cellAt (S.box (b := x10) 1 rfl) 0 (v := .int .i64 4) rfl
        have d1 := cellAt (S.box (b := x10) 1 rfl) 1 (v := .int .i64 2) rfl
        have d2 := cellAt (S.box (b := x10) 1 rfl) 2 (v := .string ⟨#[]⟩) rfl
        have M := Lib.hid (kp_name S 5 rfl r2V ⟨#[67]⟩ HB.out.tell.2.2.1)
        clear S
        go_wp2_with fail
        refine M.out.mono ?_
        rintro e w19 ⟨rfl, S⟩
        clear M d0 d1 d2
        replace S : Sep w (boxR (x10 + 1) (.cells #[.string ⟨#[]⟩, .int .i64 0, .int .i64 0, .string ⟨#[]⟩, .bool false] 45) :: boxR x10 (.cells #[.int .i64 4, .int .i64 2, .string ⟨#[]⟩] 33) :: valsR (.slice ka ks.length kc) ks :: boxR x7 (.cells #[.int .i64 4, .int .i64 1, .string ⟨#[]⟩] 33) :: boxR xs (.cells #[.int .i64 one1.kind, .int .i64 one1.n, .string one1.s] 33) :: heapR h X :: boxR b (.cells #[.int .i64 m0.kind, .int .i64 m0.n, .string m0.s, .int .i64 m1.kind, .int .i64 m1.n, .string m1.s] 60) :: []) _ := S
        have d0 := cellAt (S.box (b := x10) 1 rfl) 0 (v := .int .i64 4) rfl
        have d1 := cellAt (S.box (b := x10) 1 rfl) 1 (v := .int .i64 2) rfl
        have d2 := cellAt (S.box (b := x10) 1 rfl) 2 (v := .string ⟨#[]⟩) rfl
        have M := Lib.hid (kp_len S 5 rfl r2V 0 (by rw [HB.out.tell.2.2.2]; rfl))
        clear S
        go_wp2_with fail
        refine M.out.mono ?_
        rintro e w20 ⟨rfl, S⟩
        clear M d0 d1 d2
        replace S : Sep w (boxR (x10 + 1) (.cells #[.string ⟨#[]⟩, .int .i64 0, .int .i64 0, .string ⟨#[]⟩, .bool false] 45) :: boxR x10 (.cells #[.int .i64 4, .int .i64 2, .string ⟨#[]⟩] 33) :: valsR (.slice ka ks.length kc) ks :: boxR x7 (.cells #[.int .i64 4, .int .i64 1, .string ⟨#[]⟩] 33) :: boxR xs (.cells #[.int .i64 one1.kind, .int .i64 one1.n, .string one1.s] 33) :: heapR h X :: boxR b (.cells #[.int .i64 m0.kind, .int .i64 m0.n, .string m0.s, .int .i64 m1.kind, .int .i64 m1.n, .string m1.s] 60) :: []) _ := S
        clear EZ
        replace S := Lib.hid S
        go_wp2
        have hkl : (ks.length : Int) ≤ 9223372036854775807 := by
          obtain ⟨_, _, e, q1, q2, _⟩ := (S.out.row 2 rfl).sees'
          unfold maxLen at q2; omega
        go_loopw [12] (fun kv wr => ∃ k : Nat, k ≤ ks.length ∧ kv = .int .i64 k ∧ Sep w (boxR (x10 + 1) (.cells #[.string ⟨#[]⟩, .int .i64 0, .int .i64 0, .string ⟨#[]⟩, .bool false] 45) :: boxR x10 (.cells #[.int .i64 4, .int .i64 2, .string ⟨#[]⟩] 33) :: valsR (.slice ka ks.length kc) ks :: boxR x7 (.cells #[.int .i64 4, .int .i64 1, .string ⟨#[]⟩] 33) :: boxR xs (.cells #[.int .i64 one1.kind, .int .i64 one1.n, .string one1.s] 33) :: heapR h X :: boxR b (.cells #[.int .i64 m0.kind, .int .i64 m0.n, .string m0.s, .int .i64 m1.kind, .int .i64 m1.n, .string m1.s] 60) :: []) wr) (fun kv _ => ks.length - (intOf kv).toNat)
        case atStart => exact ⟨0, by omega, rfl, S.out⟩
        case round =>
          clear S
          obtain ⟨k, hk, rfl, S⟩ := hrel
          by_cases hkk : k < ks.length
          · have hlt : (k : Int) < ks.length := by omega
            obtain ⟨x, hx⟩ : ∃ x, ks[k]? = some x := ⟨ks[k], by simp⟩
            obtain ⟨_, _, e0, p1, p2, p3⟩ := (S.row 2 rfl).sees'
            cases e0
            obtain ⟨g, og, rfl, hcell⟩ : ∃ g o, ka = some ⟨g, o, none⟩ ∧ ∀ i v, ks[i]? = some v → wr.cell? ⟨g, o + i * 3, none⟩ = some (.int .i64 v.kind) ∧ wr.cell? ⟨g, o + i * 3 + 1, none⟩ = some (.int .i64 v.n) ∧ wr.cell? ⟨g, o + i * 3 + 2, none⟩ = some (.string v.s) := by
              rcases p3 with hh | hh
              · subst hh; simp at hx
              · exact hh
            clear hcell p1 p2 p3
            obtain ⟨gx, hgx⟩ : ∃ gx, X.get r1V x = gx := ⟨_, rfl⟩
            have hgc : X.get r2V x = gx := by rw [← hgx]; unfold HeapM.get; rw [HB.out.pc.1, HB.out.pc.2]
            have HG := Lib.hid (And.intro hgx hgc)
            clear hgx hgc
            have HX := Lib.hid (And.intro hx hkk)
            obtain ⟨t0, t1, t2⟩ : wr.cell? ⟨g, og + k * 3, none⟩ = some (.int .i64 x.kind) ∧ wr.cell? ⟨g, og + k * 3 + 1, none⟩ = some (.int .i64 x.n) ∧ wr.cell? ⟨g, og + k * 3 + 2, none⟩ = some (.string x.s) := by have T : Sep w ([] ++ boxR (x10 + 1) (.cells #[.string ⟨#[]⟩, .int .i64 0, .int .i64 0, .string ⟨#[]⟩, .bool false] 45) :: boxR x10 (.cells #[.int .i64 4, .int .i64 2, .string ⟨#[]⟩] 33) :: valsR (.slice (some ⟨g, og, none⟩) ks.length kc) ks :: boxR x7 (.cells #[.int .i64 4, .int .i64 1, .string ⟨#[]⟩] 33) :: boxR xs (.cells #[.int .i64 one1.kind, .int .i64 one1.n, .string one1.s] 33) :: heapR h X :: boxR b (.cells #[.int .i64 m0.kind, .int .i64 m0.n, .string m0.s, .int .i64 m1.kind, .int .i64 m1.n, .string m1.s] 60) :: []) wr := S; exact (fun W Q T => (by obtain ⟨a0, c0, e0, _, _, p3⟩ := (T.row (Q.length + 2) (by rw [List.getElem?_append_right (by omega), Nat.add_sub_cancel_left]; rfl)).sees'; cases e0; rcases p3 with hh | ⟨g1, o1, hh, hcl⟩; (subst hh; simp at hx); (cases hh; exact hcl k x hx)) : ∀ (W : World) (Q : List Res), Sep w (Q ++ boxR (x10 + 1) (.cells #[.string ⟨#[]⟩, .int .i64 0, .int .i64 0, .string ⟨#[]⟩, .bool false] 45) :: boxR x10 (.cells #[.int .i64 4, .int .i64 2, .string ⟨#[]⟩] 33) :: valsR (.slice (some ⟨g, og, none⟩) ks.length kc) ks :: boxR x7 (.cells #[.int .i64 4, .int .i64 1, .string ⟨#[]⟩] 33) :: boxR xs (.cells #[.int .i64 one1.kind, .int .i64 one1.n, .string one1.s] 33) :: heapR h X :: boxR b (.cells #[.int .i64 m0.kind, .int .i64 m0.n, .string m0.s, .int .i64 m1.kind, .int .i64 m1.n, .string m1.s] 60) :: []) W → W.cell? ⟨g, og + k * 3, none⟩ = some (.int .i64 x.kind) ∧ W.cell? ⟨g, og + k * 3 + 1, none⟩ = some (.int .i64 x.n) ∧ W.cell? ⟨g, og + k * 3 + 2, none⟩ = some (.string x.s)) wr [] T
            obtain ⟨baseA, hbaseA⟩ : ∃ base, base = boxR (x10 + 1) (.cells #[.string ⟨#[]⟩, .int .i64 0, .int .i64 0, .string ⟨#[]⟩, .bool false] 45) :: boxR x10 (.cells #[.int .i64 4, .int .i64 2, .string ⟨#[]⟩] 33) :: valsR (.slice (some ⟨g, og, none⟩) ks.length kc) ks :: boxR x7 (.cells #[.int .i64 4, .int .i64 1, .string ⟨#[]⟩] 33) :: boxR xs (.cells #[.int .i64 one1.kind, .int .i64 one1.n, .string one1.s] 33) :: heapR h X :: boxR b (.cells #[.int .i64 m0.kind, .int .i64 m0.n, .string m0.s, .int .i64 m1.kind, .int .i64 m1.n, .string m1.s] 60) :: [] := ⟨_, rfl⟩
            have HbaseA := Lib.hid hbaseA
            have KbaseA : Hid (∀ W (Q : List Res), Sep w (Q ++ baseA) W → W.cell? ⟨x7, 0, none⟩ = some (.int .i64 4) ∧ W.cell? ⟨x7, 1, none⟩ = some (.int .i64 1) ∧ W.cell? ⟨x7, 2, none⟩ = some (.string ⟨#[]⟩) ∧ W.cell? ⟨g, og + k * 3, none⟩ = some (.int .i64 x.kind) ∧ W.cell? ⟨g, og + k * 3 + 1, none⟩ = some (.int .i64 x.n) ∧ W.cell? ⟨g, og + k * 3 + 2, none⟩ = some (.string x.s)) := Lib.hid fun W Q T => by
              rw [hbaseA] at T
              have i0 := T.box (b := x7) (o := .cells #[.int .i64 4, .int .i64 1, .string ⟨#[]⟩] 33) (Q.length + 3) (by rw [List.getElem?_append_right (by omega), Nat.add_sub_cancel_left]; rfl)
              exact ⟨cellAt i0 0 rfl, cellAt i0 1 rfl, cellAt i0 2 rfl, (by obtain ⟨a0, c0, e0, _, _, p3⟩ := (T.row (Q.length + 2) (by rw [List.getElem?_append_right (by omega), Nat.add_sub_cancel_left]; rfl)).sees'; cases e0; rcases p3 with hh | ⟨g1, o1, hh, hcl⟩; (subst hh; simp at hx); (cases hh; exact hcl k x hx))⟩
            have KG : Hid (∀ W (Q : List Res), Sep w (Q ++ baseA) W → Calls Try.prog 35 #[.pointer (some ⟨h, 0, none⟩), .agg #[.int .i64 4, .int .i64 1, .string ⟨#[]⟩], .agg #[.int .i64 x.kind, .int .i64 x.n, .string x.s]] W fun e W' => e = .returned (.tuple #[.agg #[.int .i64 (gx.getD V.zero).kind, .int .i64 (gx.getD V.zero).n, .string (gx.getD V.zero).s], .bool gx.isSome]) ∧ Sep w (Q ++ baseA) W') := Lib.hid fun W Q T => by
              rw [HbaseA.out] at T ⊢
              exact kp_get T (Q.length + 5) (by rw [List.getElem?_append_right (by omega), Nat.add_sub_cancel_left]; rfl) r1V x gx HG.out.1
            replace S : Sep w baseA wr := by rw [hbaseA]; exact S
            replace S := Lib.hid S
            clear hbaseA
            go_upto_region 17 with fail
            go_cut [13] from 105 to 133 (fun s13 wx => ∃ qx, s13 = .pointer (some ⟨qx, 0, none⟩) ∧ Sep w (boxR qx (.cells #[.int .i64 (gx.getD V.zero).kind, .int .i64 (gx.getD V.zero).n, .string (gx.getD V.zero).s] 33) :: baseA) wx)
            case first =>
              have T0 : Sep w ([] ++ baseA) _ := S.out.drew
              clear S
              as_aux_lemma =>
                refine wp_region_held_drew (S := fun W => W.cell? ⟨x7, 0, none⟩ = some (.int .i64 4) ∧ W.cell? ⟨x7, 1, none⟩ = some (.int .i64 1) ∧ W.cell? ⟨x7, 2, none⟩ = some (.string ⟨#[]⟩) ∧ W.cell? ⟨g, og + k * 3, none⟩ = some (.int .i64 x.kind) ∧ W.cell? ⟨g, og + k * 3 + 1, none⟩ = some (.int .i64 x.n) ∧ W.cell? ⟨g, og + k * 3 + 2, none⟩ = some (.string x.s)) (by kernel_rfl) (KbaseA.out _ [] T0) (fun hH => ?_)
                refine takeT 0 hH (hy := .inl ⟨by rfl, by (intro w hSw; try obtain ⟨u0, u1, u2, v0, v1, v2⟩ := hSw); (go_simp; try rfl)⟩) (h := ?_)
                simp only [Act.put, List.setIfInBounds_toArray, List.set_cons_zero, List.set_cons_succ]
                refine takeT 1 hH (hy := .inl ⟨by rfl, by (intro w hSw; try obtain ⟨u0, u1, u2, v0, v1, v2⟩ := hSw); (go_simp; try rfl)⟩) (h := ?_)
                simp only [Act.put, List.setIfInBounds_toArray, List.set_cons_zero, List.set_cons_succ]
                refine takeT 2 hH (hy := .inl ⟨by rfl, by (intro w hSw; try obtain ⟨u0, u1, u2, v0, v1, v2⟩ := hSw); (go_simp; try rfl)⟩) (h := ?_)
                simp only [Act.put, List.setIfInBounds_toArray, List.set_cons_zero, List.set_cons_succ]
                refine takeT 3 hH (hy := .inl ⟨by rfl, by (intro w hSw; try obtain ⟨u0, u1, u2, v0, v1, v2⟩ := hSw); (go_simp; try rfl)⟩) (h := ?_)
                simp only [Act.put, List.setIfInBounds_toArray, List.set_cons_zero, List.set_cons_succ]
                refine takeT 4 hH (hy := .inl ⟨by rfl, by (intro w hSw; try obtain ⟨u0, u1, u2, v0, v1, v2⟩ := hSw); (go_simp; try rfl)⟩) (h := ?_)
                simp only [Act.put, List.setIfInBounds_toArray, List.set_cons_zero, List.set_cons_succ]
                refine takeT 5 hH (hy := .inl ⟨by rfl, by (intro w hSw; try obtain ⟨u0, u1, u2, v0, v1, v2⟩ := hSw); (go_simp; try rfl)⟩) (h := ?_)
                simp only [Act.put, List.setIfInBounds_toArray, List.set_cons_zero, List.set_cons_succ]
                refine readyT [6, 10] ?_
                refine consT (fun K hK => ?_) (consT (fun K hK => ?_) AllReadyH.nil)
                · go_simp
                  go_wp2_with (go_at_call 35; refine (KG.out _ [] T0).mono ?_; rintro e w1 ⟨rfl, T1⟩)
                  clear hH
                  refine hK.out _ _ (KbaseA.out _ [] T1) (fun hH => ?_)
                  clear hK K
                  refine takeT 7 hH (hy := .inl ⟨by rfl, by (intro w hSw; try obtain ⟨u0, u1, u2, v0, v1, v2⟩ := hSw); (go_simp; try rfl)⟩) (h := ?_)
                  simp only [Act.put, List.setIfInBounds_toArray, List.set_cons_zero, List.set_cons_succ]
                  refine takeT 8 hH (hy := .inl ⟨by rfl, by (intro w hSw; try obtain ⟨u0, u1, u2, v0, v1, v2⟩ := hSw); (go_simp; try rfl)⟩) (h := ?_)
                  simp only [Act.put, List.setIfInBounds_toArray, List.set_cons_zero, List.set_cons_succ]
                  refine takeT 9 hH (hy := .inl ⟨by rfl, by (intro w hSw; try obtain ⟨u0, u1, u2, v0, v1, v2⟩ := hSw); (go_simp; try rfl)⟩) (h := ?_)
                  simp only [Act.put, List.setIfInBounds_toArray, List.set_cons_zero, List.set_cons_succ]
                  refine readyT [10] ?_
                  refine consT (fun K hK => ?_) AllReadyH.nil
                  go_simp
                  have T2 : Sep w ([boxR _ (.cells #[.int .i64 0, .int .i64 0, .string ⟨#[]⟩] 33)] ++ baseA) _ := Sep.alloc T1 (.cells #[.int .i64 0, .int .i64 0, .string ⟨#[]⟩] 33)
                  try simp only [size_drew, World.size_alloc] at T2
                  clear hH
                  refine hK.out _ _ (KbaseA.out _ [_] T2) (fun hH => ?_)
                  clear hK K
                  refine readyT [11] ?_
                  refine consT (fun K hK => ?_) AllReadyH.nil
                  have hz := T2.box 0 rfl
                  have z0 := cellAt hz 0 (v := .int .i64 0) rfl
                  have z1 := cellAt hz 1 (v := .int .i64 0) rfl
                  have z2 := cellAt hz 2 (v := .string ⟨#[]⟩) rfl
                  have z3 := frozenAt hz 0
                  have z4 := frozenAt hz 1
                  have z5 := frozenAt hz 2
                  go_simp
                  clear hz z0 z1 z2 z3 z4 z5
                  clear hH
                  first | (have T3 : Sep w ([boxR _ (.cells #[.int .i64 (gx.getD V.zero).kind, .int .i64 (gx.getD V.zero).n, .string (gx.getD V.zero).s] 33)] ++ baseA) _ := (Sep.alloc T1 (.cells #[.int .i64 (gx.getD V.zero).kind, .int .i64 (gx.getD V.zero).n, .string (gx.getD V.zero).s] 33)); (try simp only [size_drew, World.size_alloc] at T3); refine hK.out _ _ (KbaseA.out _ [_] T3) (fun hH => ?_)) | (have T3 : Sep w ([boxR _ (.cells #[.int .i64 (gx.getD V.zero).kind, .int .i64 (gx.getD V.zero).n, .string (gx.getD V.zero).s] 33)] ++ baseA) _ := (Sep.setBox (cs := #[.int .i64 (gx.getD V.zero).kind, .int .i64 (gx.getD V.zero).n, .string ⟨#[]⟩]) (t := 33) (Sep.setBox (cs := #[.int .i64 (gx.getD V.zero).kind, .int .i64 0, .string ⟨#[]⟩]) (t := 33) (Sep.setBox (cs := #[.int .i64 0, .int .i64 0, .string ⟨#[]⟩]) (t := 33) T2 0 rfl 0 (.int .i64 (gx.getD V.zero).kind)) 0 rfl 1 (.int .i64 (gx.getD V.zero).n)) 0 rfl 2 (.string (gx.getD V.zero).s)); (try simp only [size_drew, World.size_alloc] at T3); refine hK.out _ _ (KbaseA.out _ [_] T3) (fun hH => ?_))
                  clear hK K
                  refine takeT 12 hH (hy := .inl ⟨by rfl, by (intro w hSw; try obtain ⟨u0, u1, u2, v0, v1, v2⟩ := hSw); (go_simp; try rfl)⟩) (h := ?_)
                  simp only [Act.put, List.setIfInBounds_toArray, List.set_cons_zero, List.set_cons_succ]
                  refine wpAnyH_done (by kernel_rfl) ?_ _
                  as_aux_lemma =>
                    go_wp2_with fail
                    go_meet
                    exact ⟨_, rfl, T3⟩
                · go_simp
                  have T4 : Sep w ([boxR _ (.cells #[.int .i64 0, .int .i64 0, .string ⟨#[]⟩] 33)] ++ baseA) _ := Sep.alloc T0 (.cells #[.int .i64 0, .int .i64 0, .string ⟨#[]⟩] 33)
                  try simp only [size_drew, World.size_alloc] at T4
                  clear hH
                  refine hK.out _ _ (KbaseA.out _ [_] T4) (fun hH => ?_)
                  clear hK K
                  refine readyT [6] ?_
                  refine consT (fun K hK => ?_) AllReadyH.nil
                  go_simp
                  go_wp2_with (go_at_call 35; refine (KG.out _ [_] T4).mono ?_; rintro e w5 ⟨rfl, T5⟩)
                  clear hH
                  refine hK.out _ _ (KbaseA.out _ [_] T5) (fun hH => ?_)
                  clear hK K
                  refine takeT 7 hH (hy := .inl ⟨by rfl, by (intro w hSw; try obtain ⟨u0, u1, u2, v0, v1, v2⟩ := hSw); (go_simp; try rfl)⟩) (h := ?_)
                  simp only [Act.put, List.setIfInBounds_toArray, List.set_cons_zero, List.set_cons_succ]
                  refine takeT 8 hH (hy := .inl ⟨by rfl, by (intro w hSw; try obtain ⟨u0, u1, u2, v0, v1, v2⟩ := hSw); (go_simp; try rfl)⟩) (h := ?_)
                  simp only [Act.put, List.setIfInBounds_toArray, List.set_cons_zero, List.set_cons_succ]
                  refine takeT 9 hH (hy := .inl ⟨by rfl, by (intro w hSw; try obtain ⟨u0, u1, u2, v0, v1, v2⟩ := hSw); (go_simp; try rfl)⟩) (h := ?_)
                  simp only [Act.put, List.setIfInBounds_toArray, List.set_cons_zero, List.set_cons_succ]
                  refine readyT [11] ?_
                  refine consT (fun K hK => ?_) AllReadyH.nil
                  have hz := T5.box 0 rfl
                  have z0 := cellAt hz 0 (v := .int .i64 0) rfl
                  have z1 := cellAt hz 1 (v := .int .i64 0) rfl
                  have z2 := cellAt hz 2 (v := .string ⟨#[]⟩) rfl
                  have z3 := frozenAt hz 0
                  have z4 := frozenAt hz 1
                  have z5 := frozenAt hz 2
                  go_simp
                  clear hz z0 z1 z2 z3 z4 z5
                  clear hH
                  have T6 : Sep w ([boxR _ (.cells #[.int .i64 (gx.getD V.zero).kind, .int .i64 (gx.getD V.zero).n, .string (gx.getD V.zero).s] 33)] ++ baseA) _ := (Sep.setBox (cs := #[.int .i64 (gx.getD V.zero).kind, .int .i64 (gx.getD V.zero).n, .string ⟨#[]⟩]) (t := 33) (Sep.setBox (cs := #[.int .i64 (gx.getD V.zero).kind, .int .i64 0, .string ⟨#[]⟩]) (t := 33) (Sep.setBox (cs := #[.int .i64 0, .int .i64 0, .string ⟨#[]⟩]) (t := 33) T5 0 rfl 0 (.int .i64 (gx.getD V.zero).kind)) 0 rfl 1 (.int .i64 (gx.getD V.zero).n)) 0 rfl 2 (.string (gx.getD V.zero).s))
                  try simp only [size_drew, World.size_alloc] at T6
                  refine hK.out _ _ (KbaseA.out _ [_] T6) (fun hH => ?_)
                  clear hK K
                  refine takeT 12 hH (hy := .inl ⟨by rfl, by (intro w hSw; try obtain ⟨u0, u1, u2, v0, v1, v2⟩ := hSw); (go_simp; try rfl)⟩) (h := ?_)
                  simp only [Act.put, List.setIfInBounds_toArray, List.set_cons_zero, List.set_cons_succ]
                  refine wpAnyH_done (by kernel_rfl) ?_ _
                  as_aux_lemma =>
                    go_wp2_with fail
                    go_meet
                    exact ⟨_, rfl, T6⟩
            case rest =>
              obtain ⟨q1, rfl, S⟩ := hcut
              rw [HbaseA.out] at S
              clear KG KbaseA HbaseA t0 t1 t2
              replace S : Sep w (boxR q1 (.cells #[.int .i64 (gx.getD V.zero).kind, .int .i64 (gx.getD V.zero).n, .string (gx.getD V.zero).s] 33) :: boxR (x10 + 1) (.cells #[.string ⟨#[]⟩, .int .i64 0, .int .i64 0, .string ⟨#[]⟩, .bool false] 45) :: boxR x10 (.cells #[.int .i64 4, .int .i64 2, .string ⟨#[]⟩] 33) :: valsR (.slice (some ⟨g, og, none⟩) ks.length kc) ks :: boxR x7 (.cells #[.int .i64 4, .int .i64 1, .string ⟨#[]⟩] 33) :: boxR xs (.cells #[.int .i64 one1.kind, .int .i64 one1.n, .string one1.s] 33) :: heapR h X :: boxR b (.cells #[.int .i64 m0.kind, .int .i64 m0.n, .string m0.s, .int .i64 m1.kind, .int .i64 m1.n, .string m1.s] 60) :: []) _ := S
              have hx := HX.out.1
              obtain ⟨t0, t1, t2⟩ : wc.cell? ⟨g, og + k * 3, none⟩ = some (.int .i64 x.kind) ∧ wc.cell? ⟨g, og + k * 3 + 1, none⟩ = some (.int .i64 x.n) ∧ wc.cell? ⟨g, og + k * 3 + 2, none⟩ = some (.string x.s) := by have T : Sep w ([] ++ boxR q1 (.cells #[.int .i64 (gx.getD V.zero).kind, .int .i64 (gx.getD V.zero).n, .string (gx.getD V.zero).s] 33) :: boxR (x10 + 1) (.cells #[.string ⟨#[]⟩, .int .i64 0, .int .i64 0, .string ⟨#[]⟩, .bool false] 45) :: boxR x10 (.cells #[.int .i64 4, .int .i64 2, .string ⟨#[]⟩] 33) :: valsR (.slice (some ⟨g, og, none⟩) ks.length kc) ks :: boxR x7 (.cells #[.int .i64 4, .int .i64 1, .string ⟨#[]⟩] 33) :: boxR xs (.cells #[.int .i64 one1.kind, .int .i64 one1.n, .string one1.s] 33) :: heapR h X :: boxR b (.cells #[.int .i64 m0.kind, .int .i64 m0.n, .string m0.s, .int .i64 m1.kind, .int .i64 m1.n, .string m1.s] 60) :: []) wc := S; exact (fun W Q T => (by obtain ⟨a0, c0, e0, _, _, p3⟩ := (T.row (Q.length + 3) (by rw [List.getElem?_append_right (by omega), Nat.add_sub_cancel_left]; rfl)).sees'; cases e0; rcases p3 with hh | ⟨g1, o1, hh, hcl⟩; (subst hh; simp at hx); (cases hh; exact hcl k x hx)) : ∀ (W : World) (Q : List Res), Sep w (Q ++ boxR q1 (.cells #[.int .i64 (gx.getD V.zero).kind, .int .i64 (gx.getD V.zero).n, .string (gx.getD V.zero).s] 33) :: boxR (x10 + 1) (.cells #[.string ⟨#[]⟩, .int .i64 0, .int .i64 0, .string ⟨#[]⟩, .bool false] 45) :: boxR x10 (.cells #[.int .i64 4, .int .i64 2, .string ⟨#[]⟩] 33) :: valsR (.slice (some ⟨g, og, none⟩) ks.length kc) ks :: boxR x7 (.cells #[.int .i64 4, .int .i64 1, .string ⟨#[]⟩] 33) :: boxR xs (.cells #[.int .i64 one1.kind, .int .i64 one1.n, .string one1.s] 33) :: heapR h X :: boxR b (.cells #[.int .i64 m0.kind, .int .i64 m0.n, .string m0.s, .int .i64 m1.kind, .int .i64 m1.n, .string m1.s] 60) :: []) W → W.cell? ⟨g, og + k * 3, none⟩ = some (.int .i64 x.kind) ∧ W.cell? ⟨g, og + k * 3 + 1, none⟩ = some (.int .i64 x.n) ∧ W.cell? ⟨g, og + k * 3 + 2, none⟩ = some (.string x.s)) wc [] T
              obtain ⟨baseA, hbaseA⟩ : ∃ base, base = boxR q1 (.cells #[.int .i64 (gx.getD V.zero).kind, .int .i64 (gx.getD V.zero).n, .string (gx.getD V.zero).s] 33) :: boxR (x10 + 1) (.cells #[.string ⟨#[]⟩, .int .i64 0, .int .i64 0, .string ⟨#[]⟩, .bool false] 45) :: boxR x10 (.cells #[.int .i64 4, .int .i64 2, .string ⟨#[]⟩] 33) :: valsR (.slice (some ⟨g, og, none⟩) ks.length kc) ks :: boxR x7 (.cells #[.int .i64 4, .int .i64 1, .string ⟨#[]⟩] 33) :: boxR xs (.cells #[.int .i64 one1.kind, .int .i64 one1.n, .string one1.s] 33) :: heapR h X :: boxR b (.cells #[.int .i64 m0.kind, .int .i64 m0.n, .string m0.s, .int .i64 m1.kind, .int .i64 m1.n, .string m1.s] 60) :: [] := ⟨_, rfl⟩
              have HbaseA := Lib.hid hbaseA
              have KbaseA : Hid (∀ W (Q : List Res), Sep w (Q ++ baseA) W → W.cell? ⟨x10, 0, none⟩ = some (.int .i64 4) ∧ W.cell? ⟨x10, 1, none⟩ = some (.int .i64 2) ∧ W.cell? ⟨x10, 2, none⟩ = some (.string ⟨#[]⟩) ∧ W.cell? ⟨g, og + k * 3, none⟩ = some (.int .i64 x.kind) ∧ W.cell? ⟨g, og + k * 3 + 1, none⟩ = some (.int .i64 x.n) ∧ W.cell? ⟨g, og + k * 3 + 2, none⟩ = some (.string x.s)) := Lib.hid fun W Q T => by
                rw [hbaseA] at T
                have i0 := T.box (b := x10) (o := .cells #[.int .i64 4, .int .i64 2, .string ⟨#[]⟩] 33) (Q.length + 2) (by rw [List.getElem?_append_right (by omega), Nat.add_sub_cancel_left]; rfl)
                exact ⟨cellAt i0 0 rfl, cellAt i0 1 rfl, cellAt i0 2 rfl, (by obtain ⟨a0, c0, e0, _, _, p3⟩ := (T.row (Q.length + 3) (by rw [List.getElem?_append_right (by omega), Nat.add_sub_cancel_left]; rfl)).sees'; cases e0; rcases p3 with hh | ⟨g1, o1, hh, hcl⟩; (subst hh; simp at hx); (cases hh; exact hcl k x hx))⟩
              have KG : Hid (∀ W (Q : List Res), Sep w (Q ++ baseA) W → Calls Try.prog 35 #[.pointer (some ⟨h, 0, none⟩), .agg #[.int .i64 4, .int .i64 2, .string ⟨#[]⟩], .agg #[.int .i64 x.kind, .int .i64 x.n, .string x.s]] W fun e W' => e = .returned (.tuple #[.agg #[.int .i64 (gx.getD V.zero).kind, .int .i64 (gx.getD V.zero).n, .string (gx.getD V.zero).s], .bool gx.isSome]) ∧ Sep w (Q ++ baseA) W') := Lib.hid fun W Q T => by
                rw [HbaseA.out] at T ⊢
                exact kp_get T (Q.length + 6) (by rw [List.getElem?_append_right (by omega), Nat.add_sub_cancel_left]; rfl) r2V x gx HG.out.2
              replace S : Sep w baseA wc := by rw [hbaseA]; exact S
              replace S := Lib.hid S
              clear hbaseA
              go_upto_region 18 with fail
              go_cut [15] from 105 to 133 (fun s15 wx => ∃ qx, s15 = .pointer (some ⟨qx, 0, none⟩) ∧ Sep w (boxR qx (.cells #[.int .i64 (gx.getD V.zero).kind, .int .i64 (gx.getD V.zero).n, .string (gx.getD V.zero).s] 33) :: baseA) wx)
              case first =>
                have T0 : Sep w ([] ++ baseA) _ := S.out.drew
                clear S
                as_aux_lemma =>
                  refine wp_region_held_drew (S := fun W => W.cell? ⟨x10, 0, none⟩ = some (.int .i64 4) ∧ W.cell? ⟨x10, 1, none⟩ = some (.int .i64 2) ∧ W.cell? ⟨x10, 2, none⟩ = some (.string ⟨#[]⟩) ∧ W.cell? ⟨g, og + k * 3, none⟩ = some (.int .i64 x.kind) ∧ W.cell? ⟨g, og + k * 3 + 1, none⟩ = some (.int .i64 x.n) ∧ W.cell? ⟨g, og + k * 3 + 2, none⟩ = some (.string x.s)) (by kernel_rfl) (KbaseA.out _ [] T0) (fun hH => ?_)
                  refine takeT 0 hH (hy := .inl ⟨by rfl, by (intro w hSw; try obtain ⟨u0, u1, u2, v0, v1, v2⟩ := hSw); (go_simp; try rfl)⟩) (h := ?_)
                  simp only [Act.put, List.setIfInBounds_toArray, List.set_cons_zero, List.set_cons_succ]
                  refine takeT 1 hH (hy := .inl ⟨by rfl, by (intro w hSw; try obtain ⟨u0, u1, u2, v0, v1, v2⟩ := hSw); (go_simp; try rfl)⟩) (h := ?_)
                  simp only [Act.put, List.setIfInBounds_toArray, List.set_cons_zero, List.set_cons_succ]
                  refine takeT 2 hH (hy := .inl ⟨by rfl, by (intro w hSw; try obtain ⟨u0, u1, u2, v0, v1, v2⟩ := hSw); (go_simp; try rfl)⟩) (h := ?_)
                  simp only [Act.put, List.setIfInBounds_toArray, List.set_cons_zero, List.set_cons_succ]
                  refine takeT 3 hH (hy := .inl ⟨by rfl, by (intro w hSw; try obtain ⟨u0, u1, u2, v0, v1, v2⟩ := hSw); (go_simp; try rfl)⟩) (h := ?_)
                  simp only [Act.put, List.setIfInBounds_toArray, List.set_cons_zero, List.set_cons_succ]
                  refine takeT 4 hH (hy := .inl ⟨by rfl, by (intro w hSw; try obtain ⟨u0, u1, u2, v0, v1, v2⟩ := hSw); (go_simp; try rfl)⟩) (h := ?_)
                  simp only [Act.put, List.setIfInBounds_toArray, List.set_cons_zero, List.set_cons_succ]
                  refine takeT 5 hH (hy := .inl ⟨by rfl, by (intro w hSw; try obtain ⟨u0, u1, u2, v0, v1, v2⟩ := hSw); (go_simp; try rfl)⟩) (h := ?_)
                  simp only [Act.put, List.setIfInBounds_toArray, List.set_cons_zero, List.set_cons_succ]
                  refine readyT [6, 10] ?_
                  refine consT (fun K hK => ?_) (consT (fun K hK => ?_) AllReadyH.nil)
                  · go_simp
                    go_wp2_with (go_at_call 35; refine (KG.out _ [] T0).mono ?_; rintro e w1 ⟨rfl, T1⟩)
                    clear hH
                    refine hK.out _ _ (KbaseA.out _ [] T1) (fun hH => ?_)
                    clear hK K
                    refine takeT 7 hH (hy := .inl ⟨by rfl, by (intro w hSw; try obtain ⟨u0, u1, u2, v0, v1, v2⟩ := hSw); (go_simp; try rfl)⟩) (h := ?_)
                    simp only [Act.put, List.setIfInBounds_toArray, List.set_cons_zero, List.set_cons_succ]
                    refine takeT 8 hH (hy := .inl ⟨by rfl, by (intro w hSw; try obtain ⟨u0, u1, u2, v0, v1, v2⟩ := hSw); (go_simp; try rfl)⟩) (h := ?_)
                    simp only [Act.put, List.setIfInBounds_toArray, List.set_cons_zero, List.set_cons_succ]
                    refine takeT 9 hH (hy := .inl ⟨by rfl, by (intro w hSw; try obtain ⟨u0, u1, u2, v0, v1, v2⟩ := hSw); (go_simp; try rfl)⟩) (h := ?_)
                    simp only [Act.put, List.setIfInBounds_toArray, List.set_cons_zero, List.set_cons_succ]
                    refine readyT [10] ?_
                    refine consT (fun K hK => ?_) AllReadyH.nil
                    go_simp
                    have T2 : Sep w ([boxR _ (.cells #[.int .i64 0, .int .i64 0, .string ⟨#[]⟩] 33)] ++ baseA) _ := Sep.alloc T1 (.cells #[.int .i64 0, .int .i64 0, .string ⟨#[]⟩] 33)
                    try simp only [size_drew, World.size_alloc] at T2
                    clear hH
                    refine hK.out _ _ (KbaseA.out _ [_] T2) (fun hH => ?_)
                    clear hK K
                    refine readyT [11] ?_
                    refine consT (fun K hK => ?_) AllReadyH.nil
                    have hz := T2.box 0 rfl
                    have z0 := cellAt hz 0 (v := .int .i64 0) rfl
                    have z1 := cellAt hz 1 (v := .int .i64 0) rfl
                    have z2 := cellAt hz 2 (v := .string ⟨#[]⟩) rfl
                    have z3 := frozenAt hz 0
                    have z4 := frozenAt hz 1
                    have z5 := frozenAt hz 2
                    go_simp
                    clear hz z0 z1 z2 z3 z4 z5
                    clear hH
                    first | (have T3 : Sep w ([boxR _ (.cells #[.int .i64 (gx.getD V.zero).kind, .int .i64 (gx.getD V.zero).n, .string (gx.getD V.zero).s] 33)] ++ baseA) _ := (Sep.alloc T1 (.cells #[.int .i64 (gx.getD V.zero).kind, .int .i64 (gx.getD V.zero).n, .string (gx.getD V.zero).s] 33)); (try simp only [size_drew, World.size_alloc] at T3); refine hK.out _ _ (KbaseA.out _ [_] T3) (fun hH => ?_)) | (have T3 : Sep w ([boxR _ (.cells #[.int .i64 (gx.getD V.zero).kind, .int .i64 (gx.getD V.zero).n, .string (gx.getD V.zero).s] 33)] ++ baseA) _ := (Sep.setBox (cs := #[.int .i64 (gx.getD V.zero).kind, .int .i64 (gx.getD V.zero).n, .string ⟨#[]⟩]) (t := 33) (Sep.setBox (cs := #[.int .i64 (gx.getD V.zero).kind, .int .i64 0, .string ⟨#[]⟩]) (t := 33) (Sep.setBox (cs := #[.int .i64 0, .int .i64 0, .string ⟨#[]⟩]) (t := 33) T2 0 rfl 0 (.int .i64 (gx.getD V.zero).kind)) 0 rfl 1 (.int .i64 (gx.getD V.zero).n)) 0 rfl 2 (.string (gx.getD V.zero).s)); (try simp only [size_drew, World.size_alloc] at T3); refine hK.out _ _ (KbaseA.out _ [_] T3) (fun hH => ?_))
                    clear hK K
                    refine takeT 12 hH (hy := .inl ⟨by rfl, by (intro w hSw; try obtain ⟨u0, u1, u2, v0, v1, v2⟩ := hSw); (go_simp; try rfl)⟩) (h := ?_)
                    simp only [Act.put, List.setIfInBounds_toArray, List.set_cons_zero, List.set_cons_succ]
                    refine wpAnyH_done (by kernel_rfl) ?_ _
                    as_aux_lemma =>
                      go_wp2_with fail
                      go_meet
                      exact ⟨_, rfl, T3⟩
                  · go_simp
                    have T4 : Sep w ([boxR _ (.cells #[.int .i64 0, .int .i64 0, .string ⟨#[]⟩] 33)] ++ baseA) _ := Sep.alloc T0 (.cells #[.int .i64 0, .int .i64 0, .string ⟨#[]⟩] 33)
                    try simp only [size_drew, World.size_alloc] at T4
                    clear hH
                    refine hK.out _ _ (KbaseA.out _ [_] T4) (fun hH => ?_)
                    clear hK K
                    refine readyT [6] ?_
                    refine consT (fun K hK => ?_) AllReadyH.nil
                    go_simp
                    go_wp2_with (go_at_call 35; refine (KG.out _ [_] T4).mono ?_; rintro e w5 ⟨rfl, T5⟩)
                    clear hH
                    refine hK.out _ _ (KbaseA.out _ [_] T5) (fun hH => ?_)
                    clear hK K
                    refine takeT 7 hH (hy := .inl ⟨by rfl, by (intro w hSw; try obtain ⟨u0, u1, u2, v0, v1, v2⟩ := hSw); (go_simp; try rfl)⟩) (h := ?_)
                    simp only [Act.put, List.setIfInBounds_toArray, List.set_cons_zero, List.set_cons_succ]
                    refine takeT 8 hH (hy := .inl ⟨by rfl, by (intro w hSw; try obtain ⟨u0, u1, u2, v0, v1, v2⟩ := hSw); (go_simp; try rfl)⟩) (h := ?_)
                    simp only [Act.put, List.setIfInBounds_toArray, List.set_cons_zero, List.set_cons_succ]
                    refine takeT 9 hH (hy := .inl ⟨by rfl, by (intro w hSw; try obtain ⟨u0, u1, u2, v0, v1, v2⟩ := hSw); (go_simp; try rfl)⟩) (h := ?_)
                    simp only [Act.put, List.setIfInBounds_toArray, List.set_cons_zero, List.set_cons_succ]
                    refine readyT [11] ?_
                    refine consT (fun K hK => ?_) AllReadyH.nil
                    have hz := T5.box 0 rfl
                    have z0 := cellAt hz 0 (v := .int .i64 0) rfl
                    have z1 := cellAt hz 1 (v := .int .i64 0) rfl
                    have z2 := cellAt hz 2 (v := .string ⟨#[]⟩) rfl
                    have z3 := frozenAt hz 0
                    have z4 := frozenAt hz 1
                    have z5 := frozenAt hz 2
                    go_simp
                    clear hz z0 z1 z2 z3 z4 z5
                    clear hH
                    have T6 : Sep w ([boxR _ (.cells #[.int .i64 (gx.getD V.zero).kind, .int .i64 (gx.getD V.zero).n, .string (gx.getD V.zero).s] 33)] ++ baseA) _ := (Sep.setBox (cs := #[.int .i64 (gx.getD V.zero).kind, .int .i64 (gx.getD V.zero).n, .string ⟨#[]⟩]) (t := 33) (Sep.setBox (cs := #[.int .i64 (gx.getD V.zero).kind, .int .i64 0, .string ⟨#[]⟩]) (t := 33) (Sep.setBox (cs := #[.int .i64 0, .int .i64 0, .string ⟨#[]⟩]) (t := 33) T5 0 rfl 0 (.int .i64 (gx.getD V.zero).kind)) 0 rfl 1 (.int .i64 (gx.getD V.zero).n)) 0 rfl 2 (.string (gx.getD V.zero).s))
                    try simp only [size_drew, World.size_alloc] at T6
                    refine hK.out _ _ (KbaseA.out _ [_] T6) (fun hH => ?_)
                    clear hK K
                    refine takeT 12 hH (hy := .inl ⟨by rfl, by (intro w hSw; try obtain ⟨u0, u1, u2, v0, v1, v2⟩ := hSw); (go_simp; try rfl)⟩) (h := ?_)
                    simp only [Act.put, List.setIfInBounds_toArray, List.set_cons_zero, List.set_cons_succ]
                    refine wpAnyH_done (by kernel_rfl) ?_ _
                    as_aux_lemma =>
                      go_wp2_with fail
                      go_meet
                      exact ⟨_, rfl, T6⟩
              case rest =>
                obtain ⟨q2, rfl, S⟩ := hcut
                rw [HbaseA.out] at S
                clear KG KbaseA HbaseA t0 t1 t2
                replace S : Sep w (boxR q2 (.cells #[.int .i64 (gx.getD V.zero).kind, .int .i64 (gx.getD V.zero).n, .string (gx.getD V.zero).s] 33) :: boxR q1 (.cells #[.int .i64 (gx.getD V.zero).kind, .int .i64 (gx.getD V.zero).n, .string (gx.getD V.zero).s] 33) :: boxR (x10 + 1) (.cells #[.string ⟨#[]⟩, .int .i64 0, .int .i64 0, .string ⟨#[]⟩, .bool false] 45) :: boxR x10 (.cells #[.int .i64 4, .int .i64 2, .string ⟨#[]⟩] 33) :: valsR (.slice (some ⟨g, og, none⟩) ks.length kc) ks :: boxR x7 (.cells #[.int .i64 4, .int .i64 1, .string ⟨#[]⟩] 33) :: boxR xs (.cells #[.int .i64 one1.kind, .int .i64 one1.n, .string one1.s] 33) :: heapR h X :: boxR b (.cells #[.int .i64 m0.kind, .int .i64 m0.n, .string m0.s, .int .i64 m1.kind, .int .i64 m1.n, .string m1.s] 60) :: []) _ := S
                have d0 := cellAt (S.box (b := q1) 1 rfl) 0 (v := .int .i64 (gx.getD V.zero).kind) rfl
                have d1 := cellAt (S.box (b := q1) 1 rfl) 1 (v := .int .i64 (gx.getD V.zero).n) rfl
                have d2 := cellAt (S.box (b := q1) 1 rfl) 2 (v := .string (gx.getD V.zero).s) rfl
                have d3 := cellAt (S.box (b := q2) 0 rfl) 0 (v := .int .i64 (gx.getD V.zero).kind) rfl
                have d4 := cellAt (S.box (b := q2) 0 rfl) 1 (v := .int .i64 (gx.getD V.zero).n) rfl
                have d5 := cellAt (S.box (b := q2) 0 rfl) 2 (v := .string (gx.getD V.zero).s) rfl
                have NQ : ∀ W, (binOp .neq 33 (.agg #[.int .i64 (gx.getD V.zero).kind, .int .i64 (gx.getD V.zero).n, .string (gx.getD V.zero).s]) (.agg #[.int .i64 (gx.getD V.zero).kind, .int .i64 (gx.getD V.zero).n, .string (gx.getD V.zero).s])).run Try.prog W = .ok (.bool false) W := fun W => neq_vals W (gx.getD V.zero) (gx.getD V.zero) false (by simp)
                have S9 : Hid (Sep w (boxR (x10 + 1) (.cells #[.string ⟨#[]⟩, .int .i64 0, .int .i64 0, .string ⟨#[]⟩, .bool false] 45) :: boxR x10 (.cells #[.int .i64 4, .int .i64 2, .string ⟨#[]⟩] 33) :: valsR (.slice (some ⟨g, og, none⟩) ks.length kc) ks :: boxR x7 (.cells #[.int .i64 4, .int .i64 1, .string ⟨#[]⟩] 33) :: boxR xs (.cells #[.int .i64 one1.kind, .int .i64 one1.n, .string one1.s] 33) :: heapR h X :: boxR b (.cells #[.int .i64 m0.kind, .int .i64 m0.n, .string m0.s, .int .i64 m1.kind, .int .i64 m1.n, .string m1.s] 60) :: []) _) := Lib.hid S.tail.tail
                have hkk := HX.out.2
                clear S
                go_wp2
                refine ⟨⟨k + 1, by omega, by go_num, S9.out⟩, by simp [intOf]; omega⟩
          · obtain rfl : k = ks.length := by omega
            have hlt : ((ks.length : Int) < ks.length) = False := by simp
            clear hkk hk
            have d0 := cellAt (S.box (b := x7) 3 rfl) 0 (v := .int .i64 4) rfl
            have d1 := cellAt (S.box (b := x7) 3 rfl) 1 (v := .int .i64 1) rfl
            have d2 := cellAt (S.box (b := x7) 3 rfl) 2 (v := .string ⟨#[]⟩) rfl
            have d3 := cellAt (S.box (b := b) 6 rfl) 0 (v := .int .i64 m0.kind) rfl
            have d4 := cellAt (S.box (b := b) 6 rfl) 1 (v := .int .i64 m0.n) rfl
            have d5 := cellAt (S.box (b := b) 6 rfl) 2 (v := .string m0.s) rfl
            have d6 := cellAt (S.box (b := b) 6 rfl) 3 (v := .int .i64 m1.kind) rfl
            have d7 := cellAt (S.box (b := b) 6 rfl) 4 (v := .int .i64 m1.n) rfl
            have d8 := cellAt (S.box (b := b) 6 rfl) 5 (v := .string m1.s) rfl
            have M := Lib.hid (kp_putY S 5 rfl m0 m1 Y HB.out.eY)
            clear S
            go_wp2_with fail
            refine M.out.mono ?_
            rintro e w21 ⟨⟨pb, rfl⟩, S⟩
            clear M d0 d1 d2 d3 d4 d5 d6 d7 d8
            replace S : Sep w (boxR (x10 + 1) (.cells #[.string ⟨#[]⟩, .int .i64 0, .int .i64 0, .string ⟨#[]⟩, .bool false] 45) :: boxR x10 (.cells #[.int .i64 4, .int .i64 2, .string ⟨#[]⟩] 33) :: valsR (.slice ka ks.length kc) ks :: boxR x7 (.cells #[.int .i64 4, .int .i64 1, .string ⟨#[]⟩] 33) :: boxR xs (.cells #[.int .i64 one1.kind, .int .i64 one1.n, .string one1.s] 33) :: heapR h Y :: boxR b (.cells #[.int .i64 m0.kind, .int .i64 m0.n, .string m0.s, .int .i64 m1.kind, .int .i64 m1.n, .string m1.s] 60) :: []) _ := S
            have d0 := cellAt (S.box (b := x10) 1 rfl) 0 (v := .int .i64 4) rfl
            have d1 := cellAt (S.box (b := x10) 1 rfl) 1 (v := .int .i64 2) rfl
            have d2 := cellAt (S.box (b := x10) 1 rfl) 2 (v := .string ⟨#[]⟩) rfl
            have M := Lib.hid (kp_keys S 5 rfl r2V ks (by rw [HB.out.pY, HK.out]))
            clear S
            go_wp2_with fail
            refine M.out.mono ?_
            rintro e w22 ⟨va, vc, rfl, S⟩
            clear M d0 d1 d2
            replace S : Sep w (valsR (.slice va ks.length vc) ks :: boxR (x10 + 1) (.cells #[.string ⟨#[]⟩, .int .i64 0, .int .i64 0, .string ⟨#[]⟩, .bool false] 45) :: boxR x10 (.cells #[.int .i64 4, .int .i64 2, .string ⟨#[]⟩] 33) :: valsR (.slice ka ks.length kc) ks :: boxR x7 (.cells #[.int .i64 4, .int .i64 1, .string ⟨#[]⟩] 33) :: boxR xs (.cells #[.int .i64 one1.kind, .int .i64 one1.n, .string one1.s] 33) :: heapR h Y :: boxR b (.cells #[.int .i64 m0.kind, .int .i64 m0.n, .string m0.s, .int .i64 m1.kind, .int .i64 m1.n, .string m1.s] 60) :: []) _ := S
            have M1 := (same_vals w22 _ _ ks ks (S.row 0 rfl).sees' (S.row 3 rfl).sees').mono fun e W1 (hh : _ ∧ _) => (⟨by rw [hh.1]; simp, by obtain ⟨q, e2⟩ := hh.2; rw [e2]; exact (S.drewN q).tail⟩ : e = .returned (.bool true) ∧ Sep w (boxR (x10 + 1) (.cells #[.string ⟨#[]⟩, .int .i64 0, .int .i64 0, .string ⟨#[]⟩, .bool false] 45) :: boxR x10 (.cells #[.int .i64 4, .int .i64 2, .string ⟨#[]⟩] 33) :: valsR (.slice ka ks.length kc) ks :: boxR x7 (.cells #[.int .i64 4, .int .i64 1, .string ⟨#[]⟩] 33) :: boxR xs (.cells #[.int .i64 one1.kind, .int .i64 one1.n, .string one1.s] 33) :: heapR h Y :: boxR b (.cells #[.int .i64 m0.kind, .int .i64 m0.n, .string m0.s, .int .i64 m1.kind, .int .i64 m1.n, .string m1.s] 60) :: []) W1)
            have M := Lib.hid (M1)
            clear S
            go_wp2_with fail
            refine M.out.mono ?_
            rintro e w23 ⟨rfl, S⟩
            clear M
            replace S : Sep w (boxR (x10 + 1) (.cells #[.string ⟨#[]⟩, .int .i64 0, .int .i64 0, .string ⟨#[]⟩, .bool false] 45) :: boxR x10 (.cells #[.int .i64 4, .int .i64 2, .string ⟨#[]⟩] 33) :: valsR (.slice ka ks.length kc) ks :: boxR x7 (.cells #[.int .i64 4, .int .i64 1, .string ⟨#[]⟩] 33) :: boxR xs (.cells #[.int .i64 one1.kind, .int .i64 one1.n, .string one1.s] 33) :: heapR h Y :: boxR b (.cells #[.int .i64 m0.kind, .int .i64 m0.n, .string m0.s, .int .i64 m1.kind, .int .i64 m1.n, .string m1.s] 60) :: []) _ := S
            clear M1
            obtain ⟨baseA, hbaseA⟩ : ∃ base, base = boxR (x10 + 1) (.cells #[.string ⟨#[]⟩, .int .i64 0, .int .i64 0, .string ⟨#[]⟩, .bool false] 45) :: boxR x10 (.cells #[.int .i64 4, .int .i64 2, .string ⟨#[]⟩] 33) :: valsR (.slice ka ks.length kc) ks :: boxR x7 (.cells #[.int .i64 4, .int .i64 1, .string ⟨#[]⟩] 33) :: boxR xs (.cells #[.int .i64 one1.kind, .int .i64 one1.n, .string one1.s] 33) :: heapR h Y :: boxR b (.cells #[.int .i64 m0.kind, .int .i64 m0.n, .string m0.s, .int .i64 m1.kind, .int .i64 m1.n, .string m1.s] 60) :: [] := ⟨_, rfl⟩
            have HbaseA := Lib.hid hbaseA
            have KbaseA : Hid (∀ W (Q : List Res), Sep w (Q ++ baseA) W → W.cell? ⟨x10, 0, none⟩ = some (.int .i64 4) ∧ W.cell? ⟨x10, 1, none⟩ = some (.int .i64 2) ∧ W.cell? ⟨x10, 2, none⟩ = some (.string ⟨#[]⟩)) := Lib.hid fun W Q T => by
              rw [hbaseA] at T
              have i0 := T.box (b := x10) (o := .cells #[.int .i64 4, .int .i64 2, .string ⟨#[]⟩] 33) (Q.length + 1) (by rw [List.getElem?_append_right (by omega), Nat.add_sub_cancel_left]; rfl)
              exact ⟨cellAt i0 0 rfl, cellAt i0 1 rfl, cellAt i0 2 rfl⟩
            obtain ⟨baseB, hbaseB⟩ : ∃ base, base = boxR (x10 + 1) (.cells #[.string ⟨#[]⟩, .int .i64 0, .int .i64 0, .string ⟨#[]⟩, .bool false] 45) :: boxR x10 (.cells #[.int .i64 4, .int .i64 2, .string ⟨#[]⟩] 33) :: valsR (.slice ka ks.length kc) ks :: boxR x7 (.cells #[.int .i64 4, .int .i64 1, .string ⟨#[]⟩] 33) :: boxR xs (.cells #[.int .i64 one1.kind, .int .i64 one1.n, .string one1.s] 33) :: heapR h Z :: boxR b (.cells #[.int .i64 m0.kind, .int .i64 m0.n, .string m0.s, .int .i64 m1.kind, .int .i64 m1.n, .string m1.s] 60) :: [] := ⟨_, rfl⟩
            have HbaseB := Lib.hid hbaseB
            have KbaseB : Hid (∀ W (Q : List Res), Sep w (Q ++ baseB) W → W.cell? ⟨x10, 0, none⟩ = some (.int .i64 4) ∧ W.cell? ⟨x10, 1, none⟩ = some (.int .i64 2) ∧ W.cell? ⟨x10, 2, none⟩ = some (.string ⟨#[]⟩)) := Lib.hid fun W Q T => by
              rw [hbaseB] at T
              have i0 := T.box (b := x10) (o := .cells #[.int .i64 4, .int .i64 2, .string ⟨#[]⟩] 33) (Q.length + 1) (by rw [List.getElem?_append_right (by omega), Nat.add_sub_cancel_left]; rfl)
              exact ⟨cellAt i0 0 rfl, cellAt i0 1 rfl, cellAt i0 2 rfl⟩
            have KN : Hid (∀ W (Q : List Res), Sep w (Q ++ baseA) W → Calls Try.prog 29 #[.int .i64 4] W fun e W' => e = .returned (.agg #[.int .i64 2, .int .i64 4, .string ⟨#[]⟩]) ∧ Sep w (Q ++ baseA) W') := Lib.hid fun W Q T => by
              exact (num_ok W _).mono fun e W' ⟨e1, e2⟩ => ⟨e1, T.later e2⟩
            have KT : Hid (∀ W (Q : List Res), Sep w (Q ++ baseA) W → Calls Try.prog 20 #[.pointer (some ⟨h, 0, none⟩), .agg #[.int .i64 4, .int .i64 2, .string ⟨#[]⟩], .string ⟨#[110, 101, 119]⟩, .agg #[.int .i64 2, .int .i64 4, .string ⟨#[]⟩]] W fun e W' => e = .returned (excZ) ∧ Sep w (Q ++ baseB) W') := Lib.hid fun W Q T => by
              rw [HbaseA.out] at T
              rw [HbaseB.out]
              have hh := kp_set T (Q.length + 5) (by rw [List.getElem?_append_right (by omega), Nat.add_sub_cancel_left]; rfl) y4 HB.out.oY Z HB.out.eZ
              try rw [List.set_append_right _ _ (by omega), Nat.add_sub_cancel_left] at hh
              rw [Hy.out] at hh
              exact hh
            replace S : Sep w baseA w23 := by rw [hbaseA]; exact S
            replace S := Lib.hid S
            clear hbaseA hbaseB
            go_upto_region 24 with fail
            go_cut [17] from 22 (fun s17 wx => ∃ qx, s17 = .pointer (some ⟨qx, 0, none⟩) ∧ Sep w (boxR qx (.cells #[.string ⟨#[]⟩, .int .i64 0, .int .i64 0, .string ⟨#[]⟩, .bool false] 45) :: baseB) wx)
            case first =>
              have T0 : Sep w ([] ++ baseA) _ := S.out.drew
              clear S
              as_aux_lemma =>
                refine wp_region_held_drew (S := fun W => W.cell? ⟨x10, 0, none⟩ = some (.int .i64 4) ∧ W.cell? ⟨x10, 1, none⟩ = some (.int .i64 2) ∧ W.cell? ⟨x10, 2, none⟩ = some (.string ⟨#[]⟩)) (by kernel_rfl) (KbaseA.out _ [] T0) (fun hH => ?_)
                refine takeT 0 hH (hy := .inl ⟨by rfl, by (intro w hSw; try obtain ⟨u0, u1, u2⟩ := hSw); (go_simp; try rfl)⟩) (h := ?_)
                simp only [Act.put, List.setIfInBounds_toArray, List.set_cons_zero, List.set_cons_succ]
                refine takeT 1 hH (hy := .inl ⟨by rfl, by (intro w hSw; try obtain ⟨u0, u1, u2⟩ := hSw); (go_simp; try rfl)⟩) (h := ?_)
                simp only [Act.put, List.setIfInBounds_toArray, List.set_cons_zero, List.set_cons_succ]
                refine readyT [2, 4] ?_
                refine consT (fun K hK => ?_) (consT (fun K hK => ?_) AllReadyH.nil)
                · go_simp
                  go_wp2_with (go_at_call 29; refine (KN.out _ [] T0).mono ?_; rintro e w1 ⟨rfl, T1⟩)
                  clear hH
                  refine hK.out _ _ (KbaseA.out _ [] T1) (fun hH => ?_)
                  clear hK K
                  refine readyT [3, 4] ?_
                  refine consT (fun K hK => ?_) (consT (fun K hK => ?_) AllReadyH.nil)
                  · go_simp
                    go_wp2_with (go_at_call 20; refine (KT.out _ [] T1).mono ?_; rintro e w2 ⟨rfl, T2⟩)
                    clear hH
                    refine hK.out _ _ (KbaseB.out _ [] T2) (fun hH => ?_)
                    clear hK K
                    refine readyT [4] ?_
                    refine consT (fun K hK => ?_) AllReadyH.nil
                    go_simp
                    have T3 : Sep w ([boxR _ (.cells #[.string ⟨#[]⟩, .int .i64 0, .int .i64 0, .string ⟨#[]⟩, .bool false] 45)] ++ baseB) _ := Sep.alloc T2 (.cells #[.string ⟨#[]⟩, .int .i64 0, .int .i64 0, .string ⟨#[]⟩, .bool false] 45)
                    try simp only [size_drew, World.size_alloc] at T3
                    clear hH
                    refine hK.out _ _ (KbaseB.out _ [_] T3) (fun hH => ?_)
                    clear hK K
                    refine readyT [5] ?_
                    refine consT (fun K hK => ?_) AllReadyH.nil
                    have hz := T3.box 0 rfl
                    have z0 := cellAt hz 0 (v := .string ⟨#[]⟩) rfl
                    have z1 := cellAt hz 1 (v := .int .i64 0) rfl
                    have z2 := cellAt hz 2 (v := .int .i64 0) rfl
                    have z3 := cellAt hz 3 (v := .string ⟨#[]⟩) rfl
                    have z4 := cellAt hz 4 (v := .bool false) rfl
                    have z5 := frozenAt hz 0
                    have z6 := frozenAt hz 1
                    have z7 := frozenAt hz 2
                    have z8 := frozenAt hz 3
                    have z9 := frozenAt hz 4
                    go_simp
                    clear hz z0 z1 z2 z3 z4 z5 z6 z7 z8 z9
                    clear hH
                    first | (have T4 : Sep w ([boxR _ (.cells #[.string ⟨#[]⟩, .int .i64 0, .int .i64 0, .string ⟨#[]⟩, .bool false] 45)] ++ baseB) _ := (Sep.alloc T2 (.cells #[.string ⟨#[]⟩, .int .i64 0, .int .i64 0, .string ⟨#[]⟩, .bool false] 45)); (try simp only [size_drew, World.size_alloc] at T4); refine hK.out _ _ (KbaseB.out _ [_] T4) (fun hH => ?_)) | (have T4 : Sep w ([boxR _ (.cells #[.string ⟨#[]⟩, .int .i64 0, .int .i64 0, .string ⟨#[]⟩, .bool false] 45)] ++ baseB) _ := (Sep.setBox (cs := #[.string ⟨#[]⟩, .int .i64 0, .int .i64 0, .string ⟨#[]⟩, .bool false]) (t := 45) (Sep.setBox (cs := #[.string ⟨#[]⟩, .int .i64 0, .int .i64 0, .string ⟨#[]⟩, .bool false]) (t := 45) (Sep.setBox (cs := #[.string ⟨#[]⟩, .int .i64 0, .int .i64 0, .string ⟨#[]⟩, .bool false]) (t := 45) (Sep.setBox (cs := #[.string ⟨#[]⟩, .int .i64 0, .int .i64 0, .string ⟨#[]⟩, .bool false]) (t := 45) (Sep.setBox (cs := #[.string ⟨#[]⟩, .int .i64 0, .int .i64 0, .string ⟨#[]⟩, .bool false]) (t := 45) T3 0 rfl 0 (.string ⟨#[]⟩)) 0 rfl 1 (.int .i64 0)) 0 rfl 2 (.int .i64 0)) 0 rfl 3 (.string ⟨#[]⟩)) 0 rfl 4 (.bool false)); (try simp only [size_drew, World.size_alloc] at T4); refine hK.out _ _ (KbaseB.out _ [_] T4) (fun hH => ?_))
                    clear hK K
                    refine wpAnyH_done (by kernel_rfl) ?_ _
                    as_aux_lemma =>
                      go_wp2_with fail
                      go_meet
                      exact ⟨_, rfl, T4⟩
                  · go_simp
                    have T5 : Sep w ([boxR _ (.cells #[.string ⟨#[]⟩, .int .i64 0, .int .i64 0, .string ⟨#[]⟩, .bool false] 45)] ++ baseA) _ := Sep.alloc T1 (.cells #[.string ⟨#[]⟩, .int .i64 0, .int .i64 0, .string ⟨#[]⟩, .bool false] 45)
                    try simp only [size_drew, World.size_alloc] at T5
                    clear hH
                    refine hK.out _ _ (KbaseA.out _ [_] T5) (fun hH => ?_)
                    clear hK K
                    refine readyT [3] ?_
                    refine consT (fun K hK => ?_) AllReadyH.nil
                    go_simp
                    go_wp2_with (go_at_call 20; refine (KT.out _ [_] T5).mono ?_; rintro e w6 ⟨rfl, T6⟩)
                    clear hH
                    refine hK.out _ _ (KbaseB.out _ [_] T6) (fun hH => ?_)
                    clear hK K
                    refine readyT [5] ?_
                    refine consT (fun K hK => ?_) AllReadyH.nil
                    have hz := T6.box 0 rfl
                    have z0 := cellAt hz 0 (v := .string ⟨#[]⟩) rfl
                    have z1 := cellAt hz 1 (v := .int .i64 0) rfl
                    have z2 := cellAt hz 2 (v := .int .i64 0) rfl
                    have z3 := cellAt hz 3 (v := .string ⟨#[]⟩) rfl
                    have z4 := cellAt hz 4 (v := .bool false) rfl
                    have z5 := frozenAt hz 0
                    have z6 := frozenAt hz 1
                    have z7 := frozenAt hz 2
                    have z8 := frozenAt hz 3
                    have z9 := frozenAt hz 4
                    go_simp
                    clear hz z0 z1 z2 z3 z4 z5 z6 z7 z8 z9
                    clear hH
                    have T7 : Sep w ([boxR _ (.cells #[.string ⟨#[]⟩, .int .i64 0, .int .i64 0, .string ⟨#[]⟩, .bool false] 45)] ++ baseB) _ := (Sep.setBox (cs := #[.string ⟨#[]⟩, .int .i64 0, .int .i64 0, .string ⟨#[]⟩, .bool false]) (t := 45) (Sep.setBox (cs := #[.string ⟨#[]⟩, .int .i64 0, .int .i64 0, .string ⟨#[]⟩, .bool false]) (t := 45) (Sep.setBox (cs := #[.string ⟨#[]⟩, .int .i64 0, .int .i64 0, .string ⟨#[]⟩, .bool false]) (t := 45) (Sep.setBox (cs := #[.string ⟨#[]⟩, .int .i64 0, .int .i64 0, .string ⟨#[]⟩, .bool false]) (t := 45) (Sep.setBox (cs := #[.string ⟨#[]⟩, .int .i64 0, .int .i64 0, .string ⟨#[]⟩, .bool false]) (t := 45) T6 0 rfl 0 (.string ⟨#[]⟩)) 0 rfl 1 (.int .i64 0)) 0 rfl 2 (.int .i64 0)) 0 rfl 3 (.string ⟨#[]⟩)) 0 rfl 4 (.bool false))
                    try simp only [size_drew, World.size_alloc] at T7
                    refine hK.out _ _ (KbaseB.out _ [_] T7) (fun hH => ?_)
                    clear hK K
                    refine wpAnyH_done (by kernel_rfl) ?_ _
                    as_aux_lemma =>
                      go_wp2_with fail
                      go_meet
                      exact ⟨_, rfl, T7⟩
                · go_simp
                  have T8 : Sep w ([boxR _ (.cells #[.string ⟨#[]⟩, .int .i64 0, .int .i64 0, .string ⟨#[]⟩, .bool false] 45)] ++ baseA) _ := Sep.alloc T0 (.cells #[.string ⟨#[]⟩, .int .i64 0, .int .i64 0, .string ⟨#[]⟩, .bool false] 45)
                  try simp only [size_drew, World.size_alloc] at T8
                  clear hH
                  refine hK.out _ _ (KbaseA.out _ [_] T8) (fun hH => ?_)
                  clear hK K
                  refine readyT [2] ?_
                  refine consT (fun K hK => ?_) AllReadyH.nil
                  go_simp
                  go_wp2_with (go_at_call 29; refine (KN.out _ [_] T8).mono ?_; rintro e w9 ⟨rfl, T9⟩)
                  clear hH
                  refine hK.out _ _ (KbaseA.out _ [_] T9) (fun hH => ?_)
                  clear hK K
                  refine readyT [3] ?_
                  refine consT (fun K hK => ?_) AllReadyH.nil
                  go_simp
                  go_wp2_with (go_at_call 20; refine (KT.out _ [_] T9).mono ?_; rintro e w10 ⟨rfl, T10⟩)
                  clear hH
                  refine hK.out _ _ (KbaseB.out _ [_] T10) (fun hH => ?_)
                  clear hK K
                  refine readyT [5] ?_
                  refine consT (fun K hK => ?_) AllReadyH.nil
                  have hz := T10.box 0 rfl
                  have z0 := cellAt hz 0 (v := .string ⟨#[]⟩) rfl
                  have z1 := cellAt hz 1 (v := .int .i64 0) rfl
                  have z2 := cellAt hz 2 (v := .int .i64 0) rfl
                  have z3 := cellAt hz 3 (v := .string ⟨#[]⟩) rfl
                  have z4 := cellAt hz 4 (v := .bool false) rfl
                  have z5 := frozenAt hz 0
                  have z6 := frozenAt hz 1
                  have z7 := frozenAt hz 2
                  have z8 := frozenAt hz 3
                  have z9 := frozenAt hz 4
                  go_simp
                  clear hz z0 z1 z2 z3 z4 z5 z6 z7 z8 z9
                  clear hH
                  have T11 : Sep w ([boxR _ (.cells #[.string ⟨#[]⟩, .int .i64 0, .int .i64 0, .string ⟨#[]⟩, .bool false] 45)] ++ baseB) _ := (Sep.setBox (cs := #[.string ⟨#[]⟩, .int .i64 0, .int .i64 0, .string ⟨#[]⟩, .bool false]) (t := 45) (Sep.setBox (cs := #[.string ⟨#[]⟩, .int .i64 0, .int .i64 0, .string ⟨#[]⟩, .bool false]) (t := 45) (Sep.setBox (cs := #[.string ⟨#[]⟩, .int .i64 0, .int .i64 0, .string ⟨#[]⟩, .bool false]) (t := 45) (Sep.setBox (cs := #[.string ⟨#[]⟩, .int .i64 0, .int .i64 0, .string ⟨#[]⟩, .bool false]) (t := 45) (Sep.setBox (cs := #[.string ⟨#[]⟩, .int .i64 0, .int .i64 0, .string ⟨#[]⟩, .bool false]) (t := 45) T10 0 rfl 0 (.string ⟨#[]⟩)) 0 rfl 1 (.int .i64 0)) 0 rfl 2 (.int .i64 0)) 0 rfl 3 (.string ⟨#[]⟩)) 0 rfl 4 (.bool false))
                  try simp only [size_drew, World.size_alloc] at T11
                  refine hK.out _ _ (KbaseB.out _ [_] T11) (fun hH => ?_)
                  clear hK K
                  refine wpAnyH_done (by kernel_rfl) ?_ _
                  as_aux_lemma =>
                    go_wp2_with fail
                    go_meet
                    exact ⟨_, rfl, T11⟩
            case rest =>
              obtain ⟨x17, rfl, S⟩ := hcut
              rw [HbaseB.out] at S
              clear KN KT KbaseA KbaseB HbaseA HbaseB
              replace S : Sep w (boxR x17 (.cells #[.string ⟨#[]⟩, .int .i64 0, .int .i64 0, .string ⟨#[]⟩, .bool false] 45) :: boxR (x10 + 1) (.cells #[.string ⟨#[]⟩, .int .i64 0, .int .i64 0, .string ⟨#[]⟩, .bool false] 45) :: boxR x10 (.cells #[.int .i64 4, .int .i64 2, .string ⟨#[]⟩] 33) :: valsR (.slice ka ks.length kc) ks :: boxR x7 (.cells #[.int .i64 4, .int .i64 1, .string ⟨#[]⟩] 33) :: boxR xs (.cells #[.int .i64 one1.kind, .int .i64 one1.n, .string one1.s] 33) :: heapR h Z :: boxR b (.cells #[.int .i64 m0.kind, .int .i64 m0.n, .string m0.s, .int .i64 m1.kind, .int .i64 m1.n, .string m1.s] 60) :: []) _ := S
              obtain ⟨gz, hgz⟩ : ∃ gz, Z.get r1V newK = gz := ⟨_, rfl⟩
              have hZ := HB.out.hZ
              rw [hgz, HK.out] at hZ
              have HZ := Lib.hid hZ
              have HGZ := Lib.hid hgz
              clear hgz hZ
              obtain ⟨baseA, hbaseA⟩ : ∃ base, base = boxR x17 (.cells #[.string ⟨#[]⟩, .int .i64 0, .int .i64 0, .string ⟨#[]⟩, .bool false] 45) :: boxR (x10 + 1) (.cells #[.string ⟨#[]⟩, .int .i64 0, .int .i64 0, .string ⟨#[]⟩, .bool false] 45) :: boxR x10 (.cells #[.int .i64 4, .int .i64 2, .string ⟨#[]⟩] 33) :: valsR (.slice ka ks.length kc) ks :: boxR x7 (.cells #[.int .i64 4, .int .i64 1, .string ⟨#[]⟩] 33) :: boxR xs (.cells #[.int .i64 one1.kind, .int .i64 one1.n, .string one1.s] 33) :: heapR h Z :: boxR b (.cells #[.int .i64 m0.kind, .int .i64 m0.n, .string m0.s, .int .i64 m1.kind, .int .i64 m1.n, .string m1.s] 60) :: [] := ⟨_, rfl⟩
              have HbaseA := Lib.hid hbaseA
              have KbaseA : Hid (∀ W (Q : List Res), Sep w (Q ++ baseA) W → W.cell? ⟨x7, 0, none⟩ = some (.int .i64 4) ∧ W.cell? ⟨x7, 1, none⟩ = some (.int .i64 1) ∧ W.cell? ⟨x7, 2, none⟩ = some (.string ⟨#[]⟩)) := Lib.hid fun W Q T => by
                rw [hbaseA] at T
                have i0 := T.box (b := x7) (o := .cells #[.int .i64 4, .int .i64 1, .string ⟨#[]⟩] 33) (Q.length + 4) (by rw [List.getElem?_append_right (by omega), Nat.add_sub_cancel_left]; rfl)
                exact ⟨cellAt i0 0 rfl, cellAt i0 1 rfl, cellAt i0 2 rfl⟩
              have KY : Hid (∀ W (Q : List Res), Sep w (Q ++ baseA) W → Calls Try.prog 36 #[.string ⟨#[110, 101, 119]⟩] W fun e W' => e = .returned (.agg #[.int .i64 3, .int .i64 0, .string ⟨#[110, 101, 119]⟩]) ∧ Sep w (Q ++ baseA) W') := Lib.hid fun W Q T => by
                exact (str_ok W _).mono fun e W' ⟨e1, e2⟩ => ⟨e1, T.later e2⟩
              have KG : Hid (∀ W (Q : List Res), Sep w (Q ++ baseA) W → Calls Try.prog 35 #[.pointer (some ⟨h, 0, none⟩), .agg #[.int .i64 4, .int .i64 1, .string ⟨#[]⟩], .agg #[.int .i64 3, .int .i64 0, .string ⟨#[110, 101, 119]⟩]] W fun e W' => e = .returned (.tuple #[.agg #[.int .i64 (gz.getD V.zero).kind, .int .i64 (gz.getD V.zero).n, .string (gz.getD V.zero).s], .bool gz.isSome]) ∧ Sep w (Q ++ baseA) W') := Lib.hid fun W Q T => by
                rw [HbaseA.out] at T ⊢
                exact kp_get T (Q.length + 6) (by rw [List.getElem?_append_right (by omega), Nat.add_sub_cancel_left]; rfl) r1V newK gz HGZ.out
              replace S : Sep w baseA wc := by rw [hbaseA]; exact S
              replace S := Lib.hid S
              clear hbaseA
              go_upto_region 25 with fail
              go_cut [19] from 22 (fun s19 wx => s19 = .bool gz.isSome ∧ Sep w baseA wx)
              case first =>
                have T0 : Sep w ([] ++ baseA) _ := S.out.drew
                clear S
                as_aux_lemma =>
                  refine wp_region_held_drew (S := fun W => W.cell? ⟨x7, 0, none⟩ = some (.int .i64 4) ∧ W.cell? ⟨x7, 1, none⟩ = some (.int .i64 1) ∧ W.cell? ⟨x7, 2, none⟩ = some (.string ⟨#[]⟩)) (by kernel_rfl) (KbaseA.out _ [] T0) (fun hH => ?_)
                  refine takeT 0 hH (hy := .inl ⟨by rfl, by (intro w hSw; try obtain ⟨u0, u1, u2⟩ := hSw); (go_simp; try rfl)⟩) (h := ?_)
                  simp only [Act.put, List.setIfInBounds_toArray, List.set_cons_zero, List.set_cons_succ]
                  refine takeT 1 hH (hy := .inl ⟨by rfl, by (intro w hSw; try obtain ⟨u0, u1, u2⟩ := hSw); (go_simp; try rfl)⟩) (h := ?_)
                  simp only [Act.put, List.setIfInBounds_toArray, List.set_cons_zero, List.set_cons_succ]
                  refine readyT [2, 7] ?_
                  refine consT (fun K hK => ?_) (consT (fun K hK => ?_) AllReadyH.nil)
                  · go_simp
                    go_wp2_with (go_at_call 36; refine (KY.out _ [] T0).mono ?_; rintro e w1 ⟨rfl, T1⟩)
                    clear hH
                    refine hK.out _ _ (KbaseA.out _ [] T1) (fun hH => ?_)
                    clear hK K
                    refine readyT [3, 7] ?_
                    refine consT (fun K hK => ?_) (consT (fun K hK => ?_) AllReadyH.nil)
                    · go_simp
                      go_wp2_with (go_at_call 35; refine (KG.out _ [] T1).mono ?_; rintro e w2 ⟨rfl, T2⟩)
                      clear hH
                      refine hK.out _ _ (KbaseA.out _ [] T2) (fun hH => ?_)
                      clear hK K
                      refine takeT 4 hH (hy := .inl ⟨by rfl, by (intro w hSw; try obtain ⟨u0, u1, u2⟩ := hSw); (go_simp; try rfl)⟩) (h := ?_)
                      simp only [Act.put, List.setIfInBounds_toArray, List.set_cons_zero, List.set_cons_succ]
                      refine takeT 5 hH (hy := .inl ⟨by rfl, by (intro w hSw; try obtain ⟨u0, u1, u2⟩ := hSw); (go_simp; try rfl)⟩) (h := ?_)
                      simp only [Act.put, List.setIfInBounds_toArray, List.set_cons_zero, List.set_cons_succ]
                      refine takeT 6 hH (hy := .inl ⟨by rfl, by (intro w hSw; try obtain ⟨u0, u1, u2⟩ := hSw); (go_simp; try rfl)⟩) (h := ?_)
                      simp only [Act.put, List.setIfInBounds_toArray, List.set_cons_zero, List.set_cons_succ]
                      refine readyT [7] ?_
                      refine consT (fun K hK => ?_) AllReadyH.nil
                      go_simp
                      have T3 : Sep w ([boxR _ (.cells #[.int .i64 0, .int .i64 0, .string ⟨#[]⟩] 33)] ++ baseA) _ := Sep.alloc T2 (.cells #[.int .i64 0, .int .i64 0, .string ⟨#[]⟩] 33)
                      try simp only [size_drew, World.size_alloc] at T3
                      clear hH
                      refine hK.out _ _ (KbaseA.out _ [_] T3) (fun hH => ?_)
                      clear hK K
                      refine readyT [8] ?_
                      refine consT (fun K hK => ?_) AllReadyH.nil
                      have hz := T3.box 0 rfl
                      have z0 := cellAt hz 0 (v := .int .i64 0) rfl
                      have z1 := cellAt hz 1 (v := .int .i64 0) rfl
                      have z2 := cellAt hz 2 (v := .string ⟨#[]⟩) rfl
                      have z3 := frozenAt hz 0
                      have z4 := frozenAt hz 1
                      have z5 := frozenAt hz 2
                      go_simp
                      clear hz z0 z1 z2 z3 z4 z5
                      clear hH
                      first | (have T4 : Sep w ([boxR _ (.cells #[.int .i64 (gz.getD V.zero).kind, .int .i64 (gz.getD V.zero).n, .string (gz.getD V.zero).s] 33)] ++ baseA) _ := (Sep.alloc T2 (.cells #[.int .i64 (gz.getD V.zero).kind, .int .i64 (gz.getD V.zero).n, .string (gz.getD V.zero).s] 33)); (try simp only [size_drew, World.size_alloc] at T4); refine hK.out _ _ (KbaseA.out _ [_] T4) (fun hH => ?_)) | (have T4 : Sep w ([boxR _ (.cells #[.int .i64 (gz.getD V.zero).kind, .int .i64 (gz.getD V.zero).n, .string (gz.getD V.zero).s] 33)] ++ baseA) _ := (Sep.setBox (cs := #[.int .i64 (gz.getD V.zero).kind, .int .i64 (gz.getD V.zero).n, .string ⟨#[]⟩]) (t := 33) (Sep.setBox (cs := #[.int .i64 (gz.getD V.zero).kind, .int .i64 0, .string ⟨#[]⟩]) (t := 33) (Sep.setBox (cs := #[.int .i64 0, .int .i64 0, .string ⟨#[]⟩]) (t := 33) T3 0 rfl 0 (.int .i64 (gz.getD V.zero).kind)) 0 rfl 1 (.int .i64 (gz.getD V.zero).n)) 0 rfl 2 (.string (gz.getD V.zero).s)); (try simp only [size_drew, World.size_alloc] at T4); refine hK.out _ _ (KbaseA.out _ [_] T4) (fun hH => ?_))
                      clear hK K
                      refine takeT 9 hH (hy := .inl ⟨by rfl, by (intro w hSw; try obtain ⟨u0, u1, u2⟩ := hSw); (go_simp; try rfl)⟩) (h := ?_)
                      simp only [Act.put, List.setIfInBounds_toArray, List.set_cons_zero, List.set_cons_succ]
                      refine wpAnyH_done (by kernel_rfl) ?_ _
                      as_aux_lemma =>
                        go_wp2_with fail
                        go_meet
                        exact ⟨rfl, Sep.tail T4⟩
                    · go_simp
                      have T5 : Sep w ([boxR _ (.cells #[.int .i64 0, .int .i64 0, .string ⟨#[]⟩] 33)] ++ baseA) _ := Sep.alloc T1 (.cells #[.int .i64 0, .int .i64 0, .string ⟨#[]⟩] 33)
                      try simp only [size_drew, World.size_alloc] at T5
                      clear hH
                      refine hK.out _ _ (KbaseA.out _ [_] T5) (fun hH => ?_)
                      clear hK K
                      refine readyT [3] ?_
                      refine consT (fun K hK => ?_) AllReadyH.nil
                      go_simp
                      go_wp2_with (go_at_call 35; refine (KG.out _ [_] T5).mono ?_; rintro e w6 ⟨rfl, T6⟩)
                      clear hH
                      refine hK.out _ _ (KbaseA.out _ [_] T6) (fun hH => ?_)
                      clear hK K
                      refine takeT 4 hH (hy := .inl ⟨by rfl, by (intro w hSw; try obtain ⟨u0, u1, u2⟩ := hSw); (go_simp; try rfl)⟩) (h := ?_)
                      simp only [Act.put, List.setIfInBounds_toArray, List.set_cons_zero, List.set_cons_succ]
                      refine takeT 5 hH (hy := .inl ⟨by rfl, by (intro w hSw; try obtain ⟨u0, u1, u2⟩ := hSw); (go_simp; try rfl)⟩) (h := ?_)
                      simp only [Act.put, List.setIfInBounds_toArray, List.set_cons_zero, List.set_cons_succ]
                      refine takeT 6 hH (hy := .inl ⟨by rfl, by (intro w hSw; try obtain ⟨u0, u1, u2⟩ := hSw); (go_simp; try rfl)⟩) (h := ?_)
                      simp only [Act.put, List.setIfInBounds_toArray, List.set_cons_zero, List.set_cons_succ]
                      refine readyT [8] ?_
                      refine consT (fun K hK => ?_) AllReadyH.nil
                      have hz := T6.box 0 rfl
                      have z0 := cellAt hz 0 (v := .int .i64 0) rfl
                      have z1 := cellAt hz 1 (v := .int .i64 0) rfl
                      have z2 := cellAt hz 2 (v := .string ⟨#[]⟩) rfl
                      have z3 := frozenAt hz 0
                      have z4 := frozenAt hz 1
                      have z5 := frozenAt hz 2
                      go_simp
                      clear hz z0 z1 z2 z3 z4 z5
                      clear hH
                      have T7 : Sep w ([boxR _ (.cells #[.int .i64 (gz.getD V.zero).kind, .int .i64 (gz.getD V.zero).n, .string (gz.getD V.zero).s] 33)] ++ baseA) _ := (Sep.setBox (cs := #[.int .i64 (gz.getD V.zero).kind, .int .i64 (gz.getD V.zero).n, .string ⟨#[]⟩]) (t := 33) (Sep.setBox (cs := #[.int .i64 (gz.getD V.zero).kind, .int .i64 0, .string ⟨#[]⟩]) (t := 33) (Sep.setBox (cs := #[.int .i64 0, .int .i64 0, .string ⟨#[]⟩]) (t := 33) T6 0 rfl 0 (.int .i64 (gz.getD V.zero).kind)) 0 rfl 1 (.int .i64 (gz.getD V.zero).n)) 0 rfl 2 (.string (gz.getD V.zero).s))
                      try simp only [size_drew, World.size_alloc] at T7
                      refine hK.out _ _ (KbaseA.out _ [_] T7) (fun hH => ?_)
                      clear hK K
                      refine takeT 9 hH (hy := .inl ⟨by rfl, by (intro w hSw; try obtain ⟨u0, u1, u2⟩ := hSw); (go_simp; try rfl)⟩) (h := ?_)
                      simp only [Act.put, List.setIfInBounds_toArray, List.set_cons_zero, List.set_cons_succ]
                      refine wpAnyH_done (by kernel_rfl) ?_ _
                      as_aux_lemma =>
                        go_wp2_with fail
                        go_meet
                        exact ⟨rfl, Sep.tail T7⟩
                  · go_simp
                    have T8 : Sep w ([boxR _ (.cells #[.int .i64 0, .int .i64 0, .string ⟨#[]⟩] 33)] ++ baseA) _ := Sep.alloc T0 (.cells #[.int .i64 0, .int .i64 0, .string ⟨#[]⟩] 33)
                    try simp only [size_drew, World.size_alloc] at T8
                    clear hH
                    refine hK.out _ _ (KbaseA.out _ [_] T8) (fun hH => ?_)
                    clear hK K
                    refine readyT [2] ?_
                    refine consT (fun K hK => ?_) AllReadyH.nil
                    go_simp
                    go_wp2_with (go_at_call 36; refine (KY.out _ [_] T8).mono ?_; rintro e w9 ⟨rfl, T9⟩)
                    clear hH
                    refine hK.out _ _ (KbaseA.out _ [_] T9) (fun hH => ?_)
                    clear hK K
                    refine readyT [3] ?_
                    refine consT (fun K hK => ?_) AllReadyH.nil
                    go_simp
                    go_wp2_with (go_at_call 35; refine (KG.out _ [_] T9).mono ?_; rintro e w10 ⟨rfl, T10⟩)
                    clear hH
                    refine hK.out _ _ (KbaseA.out _ [_] T10) (fun hH => ?_)
                    clear hK K
                    refine takeT 4 hH (hy := .inl ⟨by rfl, by (intro w hSw; try obtain ⟨u0, u1, u2⟩ := hSw); (go_simp; try rfl)⟩) (h := ?_)
                    simp only [Act.put, List.setIfInBounds_toArray, List.set_cons_zero, List.set_cons_succ]
                    refine takeT 5 hH (hy := .inl ⟨by rfl, by (intro w hSw; try obtain ⟨u0, u1, u2⟩ := hSw); (go_simp; try rfl)⟩) (h := ?_)
                    simp only [Act.put, List.setIfInBounds_toArray, List.set_cons_zero, List.set_cons_succ]
                    refine takeT 6 hH (hy := .inl ⟨by rfl, by (intro w hSw; try obtain ⟨u0, u1, u2⟩ := hSw); (go_simp; try rfl)⟩) (h := ?_)
                    simp only [Act.put, List.setIfInBounds_toArray, List.set_cons_zero, List.set_cons_succ]
                    refine readyT [8] ?_
                    refine consT (fun K hK => ?_) AllReadyH.nil
                    have hz := T10.box 0 rfl
                    have z0 := cellAt hz 0 (v := .int .i64 0) rfl
                    have z1 := cellAt hz 1 (v := .int .i64 0) rfl
                    have z2 := cellAt hz 2 (v := .string ⟨#[]⟩) rfl
                    have z3 := frozenAt hz 0
                    have z4 := frozenAt hz 1
                    have z5 := frozenAt hz 2
                    go_simp
                    clear hz z0 z1 z2 z3 z4 z5
                    clear hH
                    have T11 : Sep w ([boxR _ (.cells #[.int .i64 (gz.getD V.zero).kind, .int .i64 (gz.getD V.zero).n, .string (gz.getD V.zero).s] 33)] ++ baseA) _ := (Sep.setBox (cs := #[.int .i64 (gz.getD V.zero).kind, .int .i64 (gz.getD V.zero).n, .string ⟨#[]⟩]) (t := 33) (Sep.setBox (cs := #[.int .i64 (gz.getD V.zero).kind, .int .i64 0, .string ⟨#[]⟩]) (t := 33) (Sep.setBox (cs := #[.int .i64 0, .int .i64 0, .string ⟨#[]⟩]) (t := 33) T10 0 rfl 0 (.int .i64 (gz.getD V.zero).kind)) 0 rfl 1 (.int .i64 (gz.getD V.zero).n)) 0 rfl 2 (.string (gz.getD V.zero).s))
                    try simp only [size_drew, World.size_alloc] at T11
                    refine hK.out _ _ (KbaseA.out _ [_] T11) (fun hH => ?_)
                    clear hK K
                    refine takeT 9 hH (hy := .inl ⟨by rfl, by (intro w hSw; try obtain ⟨u0, u1, u2⟩ := hSw); (go_simp; try rfl)⟩) (h := ?_)
                    simp only [Act.put, List.setIfInBounds_toArray, List.set_cons_zero, List.set_cons_succ]
                    refine wpAnyH_done (by kernel_rfl) ?_ _
                    as_aux_lemma =>
                      go_wp2_with fail
                      go_meet
                      exact ⟨rfl, Sep.tail T11⟩
              case rest =>
                obtain ⟨rfl, S⟩ := hcut
                rw [HbaseA.out] at S
                clear KY KG KbaseA HbaseA
                replace S : Sep w (boxR x17 (.cells #[.string ⟨#[]⟩, .int .i64 0, .int .i64 0, .string ⟨#[]⟩, .bool false] 45) :: boxR (x10 + 1) (.cells #[.string ⟨#[]⟩, .int .i64 0, .int .i64 0, .string ⟨#[]⟩, .bool false] 45) :: boxR x10 (.cells #[.int .i64 4, .int .i64 2, .string ⟨#[]⟩] 33) :: valsR (.slice ka ks.length kc) ks :: boxR x7 (.cells #[.int .i64 4, .int .i64 1, .string ⟨#[]⟩] 33) :: boxR xs (.cells #[.int .i64 one1.kind, .int .i64 one1.n, .string one1.s] 33) :: heapR h Z :: boxR b (.cells #[.int .i64 m0.kind, .int .i64 m0.n, .string m0.s, .int .i64 m1.kind, .int .i64 m1.n, .string m1.s] 60) :: []) _ := S
                obtain ⟨hasB, hhb⟩ : ∃ gx_, (gz.isSome) = gx_ := ⟨_, rfl⟩
                rw [hhb] at HZ
                rw [hhb]
                clear hhb HGZ
                replace S := Lib.hid S
                go_wp2
                go_loopw [20, 21] (fun bv kv wr => ∃ k : Nat, k ≤ ks.length ∧ bv = .bool (decide (newK ∈ ks.take k)) ∧ kv = .int .i64 k ∧ Sep w (boxR x17 (.cells #[.string ⟨#[]⟩, .int .i64 0, .int .i64 0, .string ⟨#[]⟩, .bool false] 45) :: boxR (x10 + 1) (.cells #[.string ⟨#[]⟩, .int .i64 0, .int .i64 0, .string ⟨#[]⟩, .bool false] 45) :: boxR x10 (.cells #[.int .i64 4, .int .i64 2, .string ⟨#[]⟩] 33) :: valsR (.slice ka ks.length kc) ks :: boxR x7 (.cells #[.int .i64 4, .int .i64 1, .string ⟨#[]⟩] 33) :: boxR xs (.cells #[.int .i64 one1.kind, .int .i64 one1.n, .string one1.s] 33) :: heapR h Z :: boxR b (.cells #[.int .i64 m0.kind, .int .i64 m0.n, .string m0.s, .int .i64 m1.kind, .int .i64 m1.n, .string m1.s] 60) :: []) wr) (fun _ kv _ => ks.length - (intOf kv).toNat)
                case atStart => exact ⟨0, by omega, by simp, rfl, S.out⟩
                case round =>
                  clear S
                  obtain ⟨j, hk, rfl, rfl, S⟩ := hrel
                  by_cases hkk : j < ks.length
                  · have hlt : (j : Int) < ks.length := by omega
                    obtain ⟨x, hx⟩ : ∃ x, ks[j]? = some x := ⟨ks[j], by simp⟩
                    obtain ⟨_, _, e0, p1, p2, p3⟩ := (S.row 3 rfl).sees'
                    cases e0
                    obtain ⟨g, og, rfl, hcell⟩ : ∃ g o, ka = some ⟨g, o, none⟩ ∧ ∀ i v, ks[i]? = some v → wr.cell? ⟨g, o + i * 3, none⟩ = some (.int .i64 v.kind) ∧ wr.cell? ⟨g, o + i * 3 + 1, none⟩ = some (.int .i64 v.n) ∧ wr.cell? ⟨g, o + i * 3 + 2, none⟩ = some (.string v.s) := by
                      rcases p3 with hh | hh
                      · subst hh; simp at hx
                      · exact hh
                    obtain ⟨t0, t1, t2⟩ := hcell j x hx
                    have hnx : decide (newK ∈ ks.take (j + 1)) = (decide (newK ∈ ks.take j) || decide (x = newK)) := by
                      rw [List.take_add_one, hx, Bool.eq_iff_iff]
                      simp only [Option.toList_some, List.mem_append, List.mem_singleton, decide_eq_true_eq, Bool.or_eq_true]
                      constructor
                      · rintro (a | a)
                        · exact .inl a
                        · exact .inr a.symm
                      · rintro (a | a)
                        · exact .inl a
                        · exact .inr a.symm
                    have HN := Lib.hid (And.intro hnx hkk)
                    obtain ⟨was, hwas⟩ : ∃ gx_, (decide (newK ∈ ks.take j)) = gx_ := ⟨_, rfl⟩
                    rw [hwas] at HN
                    rw [hwas]
                    obtain ⟨hit, hhit⟩ : ∃ gx_, (decide (x = newK)) = gx_ := ⟨_, rfl⟩
                    rw [hhit] at HN
                    have EQ : ∀ W, (binOp .eql 33 (.agg #[.int .i64 x.kind, .int .i64 x.n, .string x.s]) (.agg #[.int .i64 3, .int .i64 0, .string ⟨#[110, 101, 119]⟩])).run Try.prog W = .ok (.bool hit) W := fun W => eql_vals W x newK hit hhit
                    clear hcell p1 p2 p3 hnx hwas hhit
                    obtain ⟨baseA, hbaseA⟩ : ∃ base, base = boxR x17 (.cells #[.string ⟨#[]⟩, .int .i64 0, .int .i64 0, .string ⟨#[]⟩, .bool false] 45) :: boxR (x10 + 1) (.cells #[.string ⟨#[]⟩, .int .i64 0, .int .i64 0, .string ⟨#[]⟩, .bool false] 45) :: boxR x10 (.cells #[.int .i64 4, .int .i64 2, .string ⟨#[]⟩] 33) :: valsR (.slice (some ⟨g, og, none⟩) ks.length kc) ks :: boxR x7 (.cells #[.int .i64 4, .int .i64 1, .string ⟨#[]⟩] 33) :: boxR xs (.cells #[.int .i64 one1.kind, .int .i64 one1.n, .string one1.s] 33) :: heapR h Z :: boxR b (.cells #[.int .i64 m0.kind, .int .i64 m0.n, .string m0.s, .int .i64 m1.kind, .int .i64 m1.n, .string m1.s] 60) :: [] := ⟨_, rfl⟩
                    have HbaseA := Lib.hid hbaseA
                    have KbaseA : Hid (∀ W (Q : List Res), Sep w (Q ++ baseA) W → W.cell? ⟨g, og + j * 3, none⟩ = some (.int .i64 x.kind) ∧ W.cell? ⟨g, og + j * 3 + 1, none⟩ = some (.int .i64 x.n) ∧ W.cell? ⟨g, og + j * 3 + 2, none⟩ = some (.string x.s)) := Lib.hid fun W Q T => by
                      rw [hbaseA] at T
                      exact (by obtain ⟨a0, c0, e0, _, _, p3⟩ := (T.row (Q.length + 3) (by rw [List.getElem?_append_right (by omega), Nat.add_sub_cancel_left]; rfl)).sees'; cases e0; rcases p3 with hh | ⟨g1, o1, hh, hcl⟩; (subst hh; simp at hx); (cases hh; exact hcl j x hx))
                    have KY : Hid (∀ W (Q : List Res), Sep w (Q ++ baseA) W → Calls Try.prog 36 #[.string ⟨#[110, 101, 119]⟩] W fun e W' => e = .returned (.agg #[.int .i64 3, .int .i64 0, .string ⟨#[110, 101, 119]⟩]) ∧ Sep w (Q ++ baseA) W') := Lib.hid fun W Q T => by
                      exact (str_ok W _).mono fun e W' ⟨e1, e2⟩ => ⟨e1, T.later e2⟩
                    clear hx
                    cases was with
                    | true =>
                      replace S : Sep w baseA wr := by rw [hbaseA]; exact S
                      replace S := Lib.hid S
                      clear hbaseA
                      go_upto_region 30 with fail
                      have T0 : Sep w ([] ++ baseA) _ := S.out.drew
                      clear S
                      refine wp_region_held_drew (S := fun W => W.cell? ⟨g, og + j * 3, none⟩ = some (.int .i64 x.kind) ∧ W.cell? ⟨g, og + j * 3 + 1, none⟩ = some (.int .i64 x.n) ∧ W.cell? ⟨g, og + j * 3 + 2, none⟩ = some (.string x.s)) (by kernel_rfl) (KbaseA.out _ [] T0) (fun hH => ?_)
                      refine takeT 0 hH (hy := .inl ⟨by rfl, by (intro w hSw; try obtain ⟨v0, v1, v2⟩ := hSw); (go_simp; try rfl)⟩) (h := ?_)
                      simp only [Act.put, List.setIfInBounds_toArray, List.set_cons_zero, List.set_cons_succ]
                      refine takeT 1 hH (hy := .inl ⟨by rfl, by (intro w hSw; try obtain ⟨v0, v1, v2⟩ := hSw); (go_simp; try rfl)⟩) (h := ?_)
                      simp only [Act.put, List.setIfInBounds_toArray, List.set_cons_zero, List.set_cons_succ]
                      refine skipT 2 hH (h := ?_)
                      simp only [Act.put, List.setIfInBounds_toArray, List.set_cons_zero, List.set_cons_succ]
                      refine skipT 3 hH (h := ?_)
                      simp only [Act.put, List.setIfInBounds_toArray, List.set_cons_zero, List.set_cons_succ]
                      refine skipT 4 hH (h := ?_)
                      simp only [Act.put, List.setIfInBounds_toArray, List.set_cons_zero, List.set_cons_succ]
                      refine skipT 5 hH (h := ?_)
                      simp only [Act.put, List.setIfInBounds_toArray, List.set_cons_zero, List.set_cons_succ]
                      refine skipT 6 hH (h := ?_)
                      simp only [Act.put, List.setIfInBounds_toArray, List.set_cons_zero, List.set_cons_succ]
                      refine skipT 7 hH (h := ?_)
                      simp only [Act.put, List.setIfInBounds_toArray, List.set_cons_zero, List.set_cons_succ]
                      refine takeT 8 hH (hy := .inl ⟨by rfl, by (intro w hSw; try obtain ⟨v0, v1, v2⟩ := hSw); (go_simp; try rfl)⟩) (h := ?_)
                      simp only [Act.put, List.setIfInBounds_toArray, List.set_cons_zero, List.set_cons_succ]
                      refine takeT 9 hH (hy := .inl ⟨by rfl, by (intro w hSw; try obtain ⟨v0, v1, v2⟩ := hSw); (go_simp; try rfl)⟩) (h := ?_)
                      simp only [Act.put, List.setIfInBounds_toArray, List.set_cons_zero, List.set_cons_succ]
                      refine wpAnyH_done (by kernel_rfl) ?_ _
                      as_aux_lemma =>
                        have S9 : Hid (Sep w (boxR x17 (.cells #[.string ⟨#[]⟩, .int .i64 0, .int .i64 0, .string ⟨#[]⟩, .bool false] 45) :: boxR (x10 + 1) (.cells #[.string ⟨#[]⟩, .int .i64 0, .int .i64 0, .string ⟨#[]⟩, .bool false] 45) :: boxR x10 (.cells #[.int .i64 4, .int .i64 2, .string ⟨#[]⟩] 33) :: valsR (.slice (some ⟨g, og, none⟩) ks.length kc) ks :: boxR x7 (.cells #[.int .i64 4, .int .i64 1, .string ⟨#[]⟩] 33) :: boxR xs (.cells #[.int .i64 one1.kind, .int .i64 one1.n, .string one1.s] 33) :: heapR h Z :: boxR b (.cells #[.int .i64 m0.kind, .int .i64 m0.n, .string m0.s, .int .i64 m1.kind, .int .i64 m1.n, .string m1.s] 60) :: []) _) := Lib.hid (by rw [← HbaseA.out]; exact T0)
                        clear KY KbaseA
                        go_wp2
                        refine ⟨⟨j + 1, by have := HN.out.2; omega, by rw [HN.out.1]; rfl, by go_num, S9.out⟩, by have := HN.out.2; simp [intOf]; omega⟩
                    | false =>
                      replace S : Sep w baseA wr := by rw [hbaseA]; exact S
                      replace S := Lib.hid S
                      clear hbaseA
                      go_upto_region 30 with fail
                      have T0 : Sep w ([] ++ baseA) _ := S.out.drew
                      clear S
                      refine wp_region_held_drew (S := fun W => W.cell? ⟨g, og + j * 3, none⟩ = some (.int .i64 x.kind) ∧ W.cell? ⟨g, og + j * 3 + 1, none⟩ = some (.int .i64 x.n) ∧ W.cell? ⟨g, og + j * 3 + 2, none⟩ = some (.string x.s)) (by kernel_rfl) (KbaseA.out _ [] T0) (fun hH => ?_)
                      refine takeT 0 hH (hy := .inl ⟨by rfl, by (intro w hSw; try obtain ⟨v0, v1, v2⟩ := hSw); (go_simp; try rfl)⟩) (h := ?_)
                      simp only [Act.put, List.setIfInBounds_toArray, List.set_cons_zero, List.set_cons_succ]
                      refine takeT 1 hH (hy := .inl ⟨by rfl, by (intro w hSw; try obtain ⟨v0, v1, v2⟩ := hSw); (go_simp; try rfl)⟩) (h := ?_)
                      simp only [Act.put, List.setIfInBounds_toArray, List.set_cons_zero, List.set_cons_succ]
                      refine takeT 2 hH (hy := .inl ⟨by rfl, by (intro w hSw; try obtain ⟨v0, v1, v2⟩ := hSw); (go_simp; try rfl)⟩) (h := ?_)
                      simp only [Act.put, List.setIfInBounds_toArray, List.set_cons_zero, List.set_cons_succ]
                      refine takeT 3 hH (hy := .inl ⟨by rfl, by (intro w hSw; try obtain ⟨v0, v1, v2⟩ := hSw); (go_simp; try rfl)⟩) (h := ?_)
                      simp only [Act.put, List.setIfInBounds_toArray, List.set_cons_zero, List.set_cons_succ]
                      refine takeT 4 hH (hy := .inl ⟨by rfl, by (intro w hSw; try obtain ⟨v0, v1, v2⟩ := hSw); (go_simp; try rfl)⟩) (h := ?_)
                      simp only [Act.put, List.setIfInBounds_toArray, List.set_cons_zero, List.set_cons_succ]
                      refine takeT 5 hH (hy := .inl ⟨by rfl, by (intro w hSw; try obtain ⟨v0, v1, v2⟩ := hSw); (go_simp; try rfl)⟩) (h := ?_)
                      simp only [Act.put, List.setIfInBounds_toArray, List.set_cons_zero, List.set_cons_succ]
                      refine readyT [6] ?_
                      refine consT (fun K hK => ?_) AllReadyH.nil
                      go_simp
                      go_wp2_with (go_at_call 36; refine (KY.out _ [] T0).mono ?_; rintro e w1 ⟨rfl, T1⟩)
                      clear hH
                      refine hK.out _ _ (KbaseA.out _ [] T1) (fun hH => ?_)
                      clear hK K
                      refine takeT 7 hH (hy := .inl ⟨by rfl, by (intro w hSw; try obtain ⟨v0, v1, v2⟩ := hSw); (go_simp; try rfl)⟩) (h := ?_)
                      simp only [Act.put, List.setIfInBounds_toArray, List.set_cons_zero, List.set_cons_succ]
                      refine takeT 8 hH (hy := .inl ⟨by rfl, by (intro w hSw; try obtain ⟨v0, v1, v2⟩ := hSw); (go_simp; try rfl)⟩) (h := ?_)
                      simp only [Act.put, List.setIfInBounds_toArray, List.set_cons_zero, List.set_cons_succ]
                      refine takeT 9 hH (hy := .inl ⟨by rfl, by (intro w hSw; try obtain ⟨v0, v1, v2⟩ := hSw); (go_simp; try rfl)⟩) (h := ?_)
                      simp only [Act.put, List.setIfInBounds_toArray, List.set_cons_zero, List.set_cons_succ]
                      refine wpAnyH_done (by kernel_rfl) ?_ _
                      as_aux_lemma =>
                        have S9 : Hid (Sep w (boxR x17 (.cells #[.string ⟨#[]⟩, .int .i64 0, .int .i64 0, .string ⟨#[]⟩, .bool false] 45) :: boxR (x10 + 1) (.cells #[.string ⟨#[]⟩, .int .i64 0, .int .i64 0, .string ⟨#[]⟩, .bool false] 45) :: boxR x10 (.cells #[.int .i64 4, .int .i64 2, .string ⟨#[]⟩] 33) :: valsR (.slice (some ⟨g, og, none⟩) ks.length kc) ks :: boxR x7 (.cells #[.int .i64 4, .int .i64 1, .string ⟨#[]⟩] 33) :: boxR xs (.cells #[.int .i64 one1.kind, .int .i64 one1.n, .string one1.s] 33) :: heapR h Z :: boxR b (.cells #[.int .i64 m0.kind, .int .i64 m0.n, .string m0.s, .int .i64 m1.kind, .int .i64 m1.n, .string m1.s] 60) :: []) _) := Lib.hid (by rw [← HbaseA.out]; exact T1)
                        clear KY KbaseA
                        go_wp2
                        refine ⟨⟨j + 1, by have := HN.out.2; omega, by rw [HN.out.1]; rfl, by go_num, S9.out⟩, by have := HN.out.2; simp [intOf]; omega⟩
                  · obtain rfl : j = ks.length := by omega
                    have hlt : ((ks.length : Int) < ks.length) = False := by simp
                    clear hkk hk
                    rw [List.take_length]
                    obtain ⟨was, hwas⟩ : ∃ gx_, (decide (newK ∈ ks)) = gx_ := ⟨_, rfl⟩
                    rw [hwas] at HZ
                    rw [hwas]
                    clear hwas
                    obtain ⟨hit, hhit⟩ : ∃ gx_, (decide (m0 = newK)) = gx_ := ⟨_, rfl⟩
                    rw [hhit] at HZ
                    have EQ : ∀ W, (binOp .eql 33 (.agg #[.int .i64 m0.kind, .int .i64 m0.n, .string m0.s]) (.agg #[.int .i64 3, .int .i64 0, .string ⟨#[110, 101, 119]⟩])).run Try.prog W = .ok (.bool hit) W := fun W => eql_vals W m0 newK hit hhit
                    have EZ : ∀ W, (binOp .eql 45 excZ excZ).run Try.prog W = .ok (.bool true) W := fun W => by go_simp
                    clear hhit
                    obtain rfl : hasB = (was || hit) := HZ.out
                    clear HZ
                    obtain ⟨baseA, hbaseA⟩ : ∃ base, base = boxR x17 (.cells #[.string ⟨#[]⟩, .int .i64 0, .int .i64 0, .string ⟨#[]⟩, .bool false] 45) :: boxR (x10 + 1) (.cells #[.string ⟨#[]⟩, .int .i64 0, .int .i64 0, .string ⟨#[]⟩, .bool false] 45) :: boxR x10 (.cells #[.int .i64 4, .int .i64 2, .string ⟨#[]⟩] 33) :: valsR (.slice ka ks.length kc) ks :: boxR x7 (.cells #[.int .i64 4, .int .i64 1, .string ⟨#[]⟩] 33) :: boxR xs (.cells #[.int .i64 one1.kind, .int .i64 one1.n, .string one1.s] 33) :: heapR h Z :: boxR b (.cells #[.int .i64 m0.kind, .int .i64 m0.n, .string m0.s, .int .i64 m1.kind, .int .i64 m1.n, .string m1.s] 60) :: [] := ⟨_, rfl⟩
                    have HbaseA := Lib.hid hbaseA
                    have KbaseA : Hid (∀ W (Q : List Res), Sep w (Q ++ baseA) W → W.cell? ⟨x17, 0, none⟩ = some (.string ⟨#[]⟩) ∧ W.cell? ⟨x17, 1, none⟩ = some (.int .i64 0) ∧ W.cell? ⟨x17, 2, none⟩ = some (.int .i64 0) ∧ W.cell? ⟨x17, 3, none⟩ = some (.string ⟨#[]⟩) ∧ W.cell? ⟨x17, 4, none⟩ = some (.bool false) ∧ W.cell? ⟨b, 0, none⟩ = some (.int .i64 m0.kind) ∧ W.cell? ⟨b, 1, none⟩ = some (.int .i64 m0.n) ∧ W.cell? ⟨b, 2, none⟩ = some (.string m0.s) ∧ W.cell? ⟨b, 3, none⟩ = some (.int .i64 m1.kind) ∧ W.cell? ⟨b, 4, none⟩ = some (.int .i64 m1.n) ∧ W.cell? ⟨b, 5, none⟩ = some (.string m1.s)) := Lib.hid fun W Q T => by
                      rw [hbaseA] at T
                      have i0 := T.box (b := x17) (o := .cells #[.string ⟨#[]⟩, .int .i64 0, .int .i64 0, .string ⟨#[]⟩, .bool false] 45) (Q.length + 0) (by rw [List.getElem?_append_right (by omega), Nat.add_sub_cancel_left]; rfl)
                      have i1 := T.box (b := b) (o := .cells #[.int .i64 m0.kind, .int .i64 m0.n, .string m0.s, .int .i64 m1.kind, .int .i64 m1.n, .string m1.s] 60) (Q.length + 7) (by rw [List.getElem?_append_right (by omega), Nat.add_sub_cancel_left]; rfl)
                      exact ⟨cellAt i0 0 rfl, cellAt i0 1 rfl, cellAt i0 2 rfl, cellAt i0 3 rfl, cellAt i0 4 rfl, cellAt i1 0 rfl, cellAt i1 1 rfl, cellAt i1 2 rfl, cellAt i1 3 rfl, cellAt i1 4 rfl, cellAt i1 5 rfl⟩
                    have KY : Hid (∀ W (Q : List Res), Sep w (Q ++ baseA) W → Calls Try.prog 36 #[.string ⟨#[110, 101, 119]⟩] W fun e W' => e = .returned (.agg #[.int .i64 3, .int .i64 0, .string ⟨#[110, 101, 119]⟩]) ∧ Sep w (Q ++ baseA) W') := Lib.hid fun W Q T => by
                      exact (str_ok W _).mono fun e W' ⟨e1, e2⟩ => ⟨e1, T.later e2⟩
                    cases was with
                    | true =>
                      try simp only [Bool.true_or] at *
                      replace S : Sep w baseA wr := by rw [hbaseA]; exact S
                      replace S := Lib.hid S
                      clear hbaseA
                      go_upto_region 31 with fail
                      go_cut [4] from 22 (fun s4 wx => s4 = .bool true ∧ Sep w baseA wx)
                      case first =>
                        have T0 : Sep w ([] ++ baseA) _ := S.out.drew
                        clear S
                        as_aux_lemma =>
                          refine wp_region_held_drew (S := fun W => W.cell? ⟨x17, 0, none⟩ = some (.string ⟨#[]⟩) ∧ W.cell? ⟨x17, 1, none⟩ = some (.int .i64 0) ∧ W.cell? ⟨x17, 2, none⟩ = some (.int .i64 0) ∧ W.cell? ⟨x17, 3, none⟩ = some (.string ⟨#[]⟩) ∧ W.cell? ⟨x17, 4, none⟩ = some (.bool false) ∧ W.cell? ⟨b, 0, none⟩ = some (.int .i64 m0.kind) ∧ W.cell? ⟨b, 1, none⟩ = some (.int .i64 m0.n) ∧ W.cell? ⟨b, 2, none⟩ = some (.string m0.s) ∧ W.cell? ⟨b, 3, none⟩ = some (.int .i64 m1.kind) ∧ W.cell? ⟨b, 4, none⟩ = some (.int .i64 m1.n) ∧ W.cell? ⟨b, 5, none⟩ = some (.string m1.s)) (by kernel_rfl) (KbaseA.out _ [] T0) (fun hH => ?_)
                          refine takeT 0 hH (hy := .inl ⟨by rfl, by (intro w hSw; try obtain ⟨u0, u1, u2, u3, u4, u5, u6, u7, u8, u9, u10⟩ := hSw); (go_simp; try rfl)⟩) (h := ?_)
                          simp only [Act.put, List.setIfInBounds_toArray, List.set_cons_zero, List.set_cons_succ]
                          refine takeT 1 hH (hy := .inl ⟨by rfl, by (intro w hSw; try obtain ⟨u0, u1, u2, u3, u4, u5, u6, u7, u8, u9, u10⟩ := hSw); (go_simp; try rfl)⟩) (h := ?_)
                          simp only [Act.put, List.setIfInBounds_toArray, List.set_cons_zero, List.set_cons_succ]
                          refine takeT 2 hH (hy := .inl ⟨by rfl, by (intro w hSw; try obtain ⟨u0, u1, u2, u3, u4, u5, u6, u7, u8, u9, u10⟩ := hSw); (go_simp; try rfl)⟩) (h := ?_)
                          simp only [Act.put, List.setIfInBounds_toArray, List.set_cons_zero, List.set_cons_succ]
                          refine takeT 3 hH (hy := .inl ⟨by rfl, by (intro w hSw; try obtain ⟨u0, u1, u2, u3, u4, u5, u6, u7, u8, u9, u10⟩ := hSw); (go_simp; try rfl)⟩) (h := ?_)
                          simp only [Act.put, List.setIfInBounds_toArray, List.set_cons_zero, List.set_cons_succ]
                          refine takeT 4 hH (hy := .inl ⟨by rfl, by (intro w hSw; try obtain ⟨u0, u1, u2, u3, u4, u5, u6, u7, u8, u9, u10⟩ := hSw); (go_simp; try rfl)⟩) (h := ?_)
                          simp only [Act.put, List.setIfInBounds_toArray, List.set_cons_zero, List.set_cons_succ]
                          refine takeT 5 hH (hy := .inl ⟨by rfl, by (intro w hSw; try obtain ⟨u0, u1, u2, u3, u4, u5, u6, u7, u8, u9, u10⟩ := hSw); (go_simp; try rfl)⟩) (h := ?_)
                          simp only [Act.put, List.setIfInBounds_toArray, List.set_cons_zero, List.set_cons_succ]
                          refine takeT 6 hH (hy := .inl ⟨by rfl, by (intro w hSw; try obtain ⟨u0, u1, u2, u3, u4, u5, u6, u7, u8, u9, u10⟩ := hSw); (go_simp; try rfl)⟩) (h := ?_)
                          simp only [Act.put, List.setIfInBounds_toArray, List.set_cons_zero, List.set_cons_succ]
                          refine takeT 7 hH (hy := .inl ⟨by rfl, by (intro w hSw; try obtain ⟨u0, u1, u2, u3, u4, u5, u6, u7, u8, u9, u10⟩ := hSw); (go_simp; try rfl)⟩) (h := ?_)
                          simp only [Act.put, List.setIfInBounds_toArray, List.set_cons_zero, List.set_cons_succ]
                          refine takeT 8 hH (hy := .inl ⟨by rfl, by (intro w hSw; try obtain ⟨u0, u1, u2, u3, u4, u5, u6, u7, u8, u9, u10⟩ := hSw); (go_simp; try rfl)⟩) (h := ?_)
                          simp only [Act.put, List.setIfInBounds_toArray, List.set_cons_zero, List.set_cons_succ]
                          refine takeT 9 hH (hy := .inl ⟨by rfl, by (intro w hSw; try obtain ⟨u0, u1, u2, u3, u4, u5, u6, u7, u8, u9, u10⟩ := hSw); (go_simp; try rfl)⟩) (h := ?_)
                          simp only [Act.put, List.setIfInBounds_toArray, List.set_cons_zero, List.set_cons_succ]
                          refine skipT 10 hH (h := ?_)
                          simp only [Act.put, List.setIfInBounds_toArray, List.set_cons_zero, List.set_cons_succ]
                          refine skipT 11 hH (h := ?_)
                          simp only [Act.put, List.setIfInBounds_toArray, List.set_cons_zero, List.set_cons_succ]
                          refine skipT 12 hH (h := ?_)
                          simp only [Act.put, List.setIfInBounds_toArray, List.set_cons_zero, List.set_cons_succ]
                          refine skipT 13 hH (h := ?_)
                          simp only [Act.put, List.setIfInBounds_toArray, List.set_cons_zero, List.set_cons_succ]
                          refine takeT 14 hH (hy := .inl ⟨by rfl, by (intro w hSw; try obtain ⟨u0, u1, u2, u3, u4, u5, u6, u7, u8, u9, u10⟩ := hSw); (go_simp; try rfl)⟩) (h := ?_)
                          simp only [Act.put, List.setIfInBounds_toArray, List.set_cons_zero, List.set_cons_succ]
                          refine takeT 15 hH (hy := .inl ⟨by rfl, by (intro w hSw; try obtain ⟨u0, u1, u2, u3, u4, u5, u6, u7, u8, u9, u10⟩ := hSw); (go_simp; try rfl)⟩) (h := ?_)
                          simp only [Act.put, List.setIfInBounds_toArray, List.set_cons_zero, List.set_cons_succ]
                          refine takeT 16 hH (hy := .inl ⟨by rfl, by (intro w hSw; try obtain ⟨u0, u1, u2, u3, u4, u5, u6, u7, u8, u9, u10⟩ := hSw); (go_simp; try rfl)⟩) (h := ?_)
                          simp only [Act.put, List.setIfInBounds_toArray, List.set_cons_zero, List.set_cons_succ]
                          refine takeT 17 hH (hy := .inl ⟨by rfl, by (intro w hSw; try obtain ⟨u0, u1, u2, u3, u4, u5, u6, u7, u8, u9, u10⟩ := hSw); (go_simp; try rfl)⟩) (h := ?_)
                          simp only [Act.put, List.setIfInBounds_toArray, List.set_cons_zero, List.set_cons_succ]
                          refine wpAnyH_done (by kernel_rfl) ?_ _
                          as_aux_lemma =>
                            go_wp2_with fail
                            go_meet
                            exact ⟨rfl, T0⟩
                      case rest =>
                        obtain ⟨rfl, S⟩ := hcut
                        replace S := Lib.hid S.below
                        clear KY
                        go_wp2
                        go_ret
                        exact ⟨rfl, S.out⟩
                    | false =>
                      try simp only [Bool.false_or] at *
                      cases hit with
                      | true =>
                        replace S : Sep w baseA wr := by rw [hbaseA]; exact S
                        replace S := Lib.hid S
                        clear hbaseA
                        go_upto_region 31 with fail
                        go_cut [4] from 22 (fun s4 wx => s4 = .bool true ∧ Sep w baseA wx)
                        case first =>
                          have T0 : Sep w ([] ++ baseA) _ := S.out.drew
                          clear S
                          as_aux_lemma =>
                            refine wp_region_held_drew (S := fun W => W.cell? ⟨x17, 0, none⟩ = some (.string ⟨#[]⟩) ∧ W.cell? ⟨x17, 1, none⟩ = some (.int .i64 0) ∧ W.cell? ⟨x17, 2, none⟩ = some (.int .i64 0) ∧ W.cell? ⟨x17, 3, none⟩ = some (.string ⟨#[]⟩) ∧ W.cell? ⟨x17, 4, none⟩ = some (.bool false) ∧ W.cell? ⟨b, 0, none⟩ = some (.int .i64 m0.kind) ∧ W.cell? ⟨b, 1, none⟩ = some (.int .i64 m0.n) ∧ W.cell? ⟨b, 2, none⟩ = some (.string m0.s) ∧ W.cell? ⟨b, 3, none⟩ = some (.int .i64 m1.kind) ∧ W.cell? ⟨b, 4, none⟩ = some (.int .i64 m1.n) ∧ W.cell? ⟨b, 5, none⟩ = some (.string m1.s)) (by kernel_rfl) (KbaseA.out _ [] T0) (fun hH => ?_)
                            refine takeT 0 hH (hy := .inl ⟨by rfl, by (intro w hSw; try obtain ⟨u0, u1, u2, u3, u4, u5, u6, u7, u8, u9, u10⟩ := hSw); (go_simp; try rfl)⟩) (h := ?_)
                            simp only [Act.put, List.setIfInBounds_toArray, List.set_cons_zero, List.set_cons_succ]
                            refine takeT 1 hH (hy := .inl ⟨by rfl, by (intro w hSw; try obtain ⟨u0, u1, u2, u3, u4, u5, u6, u7, u8, u9, u10⟩ := hSw); (go_simp; try rfl)⟩) (h := ?_)
                            simp only [Act.put, List.setIfInBounds_toArray, List.set_cons_zero, List.set_cons_succ]
                            refine takeT 2 hH (hy := .inl ⟨by rfl, by (intro w hSw; try obtain ⟨u0, u1, u2, u3, u4, u5, u6, u7, u8, u9, u10⟩ := hSw); (go_simp; try rfl)⟩) (h := ?_)
                            simp only [Act.put, List.setIfInBounds_toArray, List.set_cons_zero, List.set_cons_succ]
                            refine takeT 3 hH (hy := .inl ⟨by rfl, by (intro w hSw; try obtain ⟨u0, u1, u2, u3, u4, u5, u6, u7, u8, u9, u10⟩ := hSw); (go_simp; try rfl)⟩) (h := ?_)
                            simp only [Act.put, List.setIfInBounds_toArray, List.set_cons_zero, List.set_cons_succ]
                            refine takeT 4 hH (hy := .inl ⟨by rfl, by (intro w hSw; try obtain ⟨u0, u1, u2, u3, u4, u5, u6, u7, u8, u9, u10⟩ := hSw); (go_simp; try rfl)⟩) (h := ?_)
                            simp only [Act.put, List.setIfInBounds_toArray, List.set_cons_zero, List.set_cons_succ]
                            refine takeT 5 hH (hy := .inl ⟨by rfl, by (intro w hSw; try obtain ⟨u0, u1, u2, u3, u4, u5, u6, u7, u8, u9, u10⟩ := hSw); (go_simp; try rfl)⟩) (h := ?_)
                            simp only [Act.put, List.setIfInBounds_toArray, List.set_cons_zero, List.set_cons_succ]
                            refine takeT 6 hH (hy := .inl ⟨by rfl, by (intro w hSw; try obtain ⟨u0, u1, u2, u3, u4, u5, u6, u7, u8, u9, u10⟩ := hSw); (go_simp; try rfl)⟩) (h := ?_)
                            simp only [Act.put, List.setIfInBounds_toArray, List.set_cons_zero, List.set_cons_succ]
                            refine takeT 7 hH (hy := .inl ⟨by rfl, by (intro w hSw; try obtain ⟨u0, u1, u2, u3, u4, u5, u6, u7, u8, u9, u10⟩ := hSw); (go_simp; try rfl)⟩) (h := ?_)
                            simp only [Act.put, List.setIfInBounds_toArray, List.set_cons_zero, List.set_cons_succ]
                            refine takeT 8 hH (hy := .inl ⟨by rfl, by (intro w hSw; try obtain ⟨u0, u1, u2, u3, u4, u5, u6, u7, u8, u9, u10⟩ := hSw); (go_simp; try rfl)⟩) (h := ?_)
                            simp only [Act.put, List.setIfInBounds_toArray, List.set_cons_zero, List.set_cons_succ]
                            refine takeT 9 hH (hy := .inl ⟨by rfl, by (intro w hSw; try obtain ⟨u0, u1, u2, u3, u4, u5, u6, u7, u8, u9, u10⟩ := hSw); (go_simp; try rfl)⟩) (h := ?_)
                            simp only [Act.put, List.setIfInBounds_toArray, List.set_cons_zero, List.set_cons_succ]
                            refine takeT 10 hH (hy := .inl ⟨by rfl, by (intro w hSw; try obtain ⟨u0, u1, u2, u3, u4, u5, u6, u7, u8, u9, u10⟩ := hSw); (go_simp; try rfl)⟩) (h := ?_)
                            simp only [Act.put, List.setIfInBounds_toArray, List.set_cons_zero, List.set_cons_succ]
                            refine takeT 11 hH (hy := .inl ⟨by rfl, by (intro w hSw; try obtain ⟨u0, u1, u2, u3, u4, u5, u6, u7, u8, u9, u10⟩ := hSw); (go_simp; try rfl)⟩) (h := ?_)
                            simp only [Act.put, List.setIfInBounds_toArray, List.set_cons_zero, List.set_cons_succ]
                            refine readyT [12] ?_
                            refine consT (fun K hK => ?_) AllReadyH.nil
                            go_simp
                            go_wp2_with (go_at_call 36; refine (KY.out _ [] T0).mono ?_; rintro e w1 ⟨rfl, T1⟩)
                            clear hH
                            refine hK.out _ _ (KbaseA.out _ [] T1) (fun hH => ?_)
                            clear hK K
                            refine takeT 13 hH (hy := .inl ⟨by rfl, by (intro w hSw; try obtain ⟨u0, u1, u2, u3, u4, u5, u6, u7, u8, u9, u10⟩ := hSw); (go_simp; try rfl)⟩) (h := ?_)
                            simp only [Act.put, List.setIfInBounds_toArray, List.set_cons_zero, List.set_cons_succ]
                            refine takeT 14 hH (hy := .inl ⟨by rfl, by (intro w hSw; try obtain ⟨u0, u1, u2, u3, u4, u5, u6, u7, u8, u9, u10⟩ := hSw); (go_simp; try rfl)⟩) (h := ?_)
                            simp only [Act.put, List.setIfInBounds_toArray, List.set_cons_zero, List.set_cons_succ]
                            refine takeT 15 hH (hy := .inl ⟨by rfl, by (intro w hSw; try obtain ⟨u0, u1, u2, u3, u4, u5, u6, u7, u8, u9, u10⟩ := hSw); (go_simp; try rfl)⟩) (h := ?_)
                            simp only [Act.put, List.setIfInBounds_toArray, List.set_cons_zero, List.set_cons_succ]
                            refine takeT 16 hH (hy := .inl ⟨by rfl, by (intro w hSw; try obtain ⟨u0, u1, u2, u3, u4, u5, u6, u7, u8, u9, u10⟩ := hSw); (go_simp; try rfl)⟩) (h := ?_)
                            simp only [Act.put, List.setIfInBounds_toArray, List.set_cons_zero, List.set_cons_succ]
                            refine takeT 17 hH (hy := .inl ⟨by rfl, by (intro w hSw; try obtain ⟨u0, u1, u2, u3, u4, u5, u6, u7, u8, u9, u10⟩ := hSw); (go_simp; try rfl)⟩) (h := ?_)
                            simp only [Act.put, List.setIfInBounds_toArray, List.set_cons_zero, List.set_cons_succ]
                            refine wpAnyH_done (by kernel_rfl) ?_ _
                            as_aux_lemma =>
                              go_wp2_with fail
                              go_meet
                              exact ⟨rfl, T1⟩
                        case rest =>
                          obtain ⟨rfl, S⟩ := hcut
                          replace S := Lib.hid S.below
                          clear KY
                          go_wp2
                          go_ret
                          exact ⟨rfl, S.out⟩
                      | false =>
                        replace S : Sep w baseA wr := by rw [hbaseA]; exact S
                        replace S := Lib.hid S
                        clear hbaseA
                        go_upto_region 31 with fail
                        go_cut [4] from 22 (fun s4 wx => s4 = .bool true ∧ Sep w baseA wx)
                        case first =>
                          have T0 : Sep w ([] ++ baseA) _ := S.out.drew
                          clear S
                          as_aux_lemma =>
                            refine wp_region_held_drew (S := fun W => W.cell? ⟨x17, 0, none⟩ = some (.string ⟨#[]⟩) ∧ W.cell? ⟨x17, 1, none⟩ = some (.int .i64 0) ∧ W.cell? ⟨x17, 2, none⟩ = some (.int .i64 0) ∧ W.cell? ⟨x17, 3, none⟩ = some (.string ⟨#[]⟩) ∧ W.cell? ⟨x17, 4, none⟩ = some (.bool false) ∧ W.cell? ⟨b, 0, none⟩ = some (.int .i64 m0.kind) ∧ W.cell? ⟨b, 1, none⟩ = some (.int .i64 m0.n) ∧ W.cell? ⟨b, 2, none⟩ = some (.string m0.s) ∧ W.cell? ⟨b, 3, none⟩ = some (.int .i64 m1.kind) ∧ W.cell? ⟨b, 4, none⟩ = some (.int .i64 m1.n) ∧ W.cell? ⟨b, 5, none⟩ = some (.string m1.s)) (by kernel_rfl) (KbaseA.out _ [] T0) (fun hH => ?_)
                            refine takeT 0 hH (hy := .inl ⟨by rfl, by (intro w hSw; try obtain ⟨u0, u1, u2, u3, u4, u5, u6, u7, u8, u9, u10⟩ := hSw); (go_simp; try rfl)⟩) (h := ?_)
                            simp only [Act.put, List.setIfInBounds_toArray, List.set_cons_zero, List.set_cons_succ]
                            refine takeT 1 hH (hy := .inl ⟨by rfl, by (intro w hSw; try obtain ⟨u0, u1, u2, u3, u4, u5, u6, u7, u8, u9, u10⟩ := hSw); (go_simp; try rfl)⟩) (h := ?_)
                            simp only [Act.put, List.setIfInBounds_toArray, List.set_cons_zero, List.set_cons_succ]
                            refine takeT 2 hH (hy := .inl ⟨by rfl, by (intro w hSw; try obtain ⟨u0, u1, u2, u3, u4, u5, u6, u7, u8, u9, u10⟩ := hSw); (go_simp; try rfl)⟩) (h := ?_)
                            simp only [Act.put, List.setIfInBounds_toArray, List.set_cons_zero, List.set_cons_succ]
                            refine takeT 3 hH (hy := .inl ⟨by rfl, by (intro w hSw; try obtain ⟨u0, u1, u2, u3, u4, u5, u6, u7, u8, u9, u10⟩ := hSw); (go_simp; try rfl)⟩) (h := ?_)
                            simp only [Act.put, List.setIfInBounds_toArray, List.set_cons_zero, List.set_cons_succ]
                            refine takeT 4 hH (hy := .inl ⟨by rfl, by (intro w hSw; try obtain ⟨u0, u1, u2, u3, u4, u5, u6, u7, u8, u9, u10⟩ := hSw); (go_simp; try rfl)⟩) (h := ?_)
                            simp only [Act.put, List.setIfInBounds_toArray, List.set_cons_zero, List.set_cons_succ]
                            refine takeT 5 hH (hy := .inl ⟨by rfl, by (intro w hSw; try obtain ⟨u0, u1, u2, u3, u4, u5, u6, u7, u8, u9, u10⟩ := hSw); (go_simp; try rfl)⟩) (h := ?_)
                            simp only [Act.put, List.setIfInBounds_toArray, List.set_cons_zero, List.set_cons_succ]
                            refine takeT 6 hH (hy := .inl ⟨by rfl, by (intro w hSw; try obtain ⟨u0, u1, u2, u3, u4, u5, u6, u7, u8, u9, u10⟩ := hSw); (go_simp; try rfl)⟩) (h := ?_)
                            simp only [Act.put, List.setIfInBounds_toArray, List.set_cons_zero, List.set_cons_succ]
                            refine takeT 7 hH (hy := .inl ⟨by rfl, by (intro w hSw; try obtain ⟨u0, u1, u2, u3, u4, u5, u6, u7, u8, u9, u10⟩ := hSw); (go_simp; try rfl)⟩) (h := ?_)
                            simp only [Act.put, List.setIfInBounds_toArray, List.set_cons_zero, List.set_cons_succ]
                            refine takeT 8 hH (hy := .inl ⟨by rfl, by (intro w hSw; try obtain ⟨u0, u1, u2, u3, u4, u5, u6, u7, u8, u9, u10⟩ := hSw); (go_simp; try rfl)⟩) (h := ?_)
                            simp only [Act.put, List.setIfInBounds_toArray, List.set_cons_zero, List.set_cons_succ]
                            refine takeT 9 hH (hy := .inl ⟨by rfl, by (intro w hSw; try obtain ⟨u0, u1, u2, u3, u4, u5, u6, u7, u8, u9, u10⟩ := hSw); (go_simp; try rfl)⟩) (h := ?_)
                            simp only [Act.put, List.setIfInBounds_toArray, List.set_cons_zero, List.set_cons_succ]
                            refine takeT 10 hH (hy := .inl ⟨by rfl, by (intro w hSw; try obtain ⟨u0, u1, u2, u3, u4, u5, u6, u7, u8, u9, u10⟩ := hSw); (go_simp; try rfl)⟩) (h := ?_)
                            simp only [Act.put, List.setIfInBounds_toArray, List.set_cons_zero, List.set_cons_succ]
                            refine takeT 11 hH (hy := .inl ⟨by rfl, by (intro w hSw; try obtain ⟨u0, u1, u2, u3, u4, u5, u6, u7, u8, u9, u10⟩ := hSw); (go_simp; try rfl)⟩) (h := ?_)
                            simp only [Act.put, List.setIfInBounds_toArray, List.set_cons_zero, List.set_cons_succ]
                            refine readyT [12] ?_
                            refine consT (fun K hK => ?_) AllReadyH.nil
                            go_simp
                            go_wp2_with (go_at_call 36; refine (KY.out _ [] T0).mono ?_; rintro e w1 ⟨rfl, T1⟩)
                            clear hH
                            refine hK.out _ _ (KbaseA.out _ [] T1) (fun hH => ?_)
                            clear hK K
                            refine takeT 13 hH (hy := .inl ⟨by rfl, by (intro w hSw; try obtain ⟨u0, u1, u2, u3, u4, u5, u6, u7, u8, u9, u10⟩ := hSw); (go_simp; try rfl)⟩) (h := ?_)
                            simp only [Act.put, List.setIfInBounds_toArray, List.set_cons_zero, List.set_cons_succ]
                            refine takeT 14 hH (hy := .inl ⟨by rfl, by (intro w hSw; try obtain ⟨u0, u1, u2, u3, u4, u5, u6, u7, u8, u9, u10⟩ := hSw); (go_simp; try rfl)⟩) (h := ?_)
                            simp only [Act.put, List.setIfInBounds_toArray, List.set_cons_zero, List.set_cons_succ]
                            refine takeT 15 hH (hy := .inl ⟨by rfl, by (intro w hSw; try obtain ⟨u0, u1, u2, u3, u4, u5, u6, u7, u8, u9, u10⟩ := hSw); (go_simp; try rfl)⟩) (h := ?_)
                            simp only [Act.put, List.setIfInBounds_toArray, List.set_cons_zero, List.set_cons_succ]
                            refine takeT 16 hH (hy := .inl ⟨by rfl, by (intro w hSw; try obtain ⟨u0, u1, u2, u3, u4, u5, u6, u7, u8, u9, u10⟩ := hSw); (go_simp; try rfl)⟩) (h := ?_)
                            simp only [Act.put, List.setIfInBounds_toArray, List.set_cons_zero, List.set_cons_succ]
                            refine takeT 17 hH (hy := .inl ⟨by rfl, by (intro w hSw; try obtain ⟨u0, u1, u2, u3, u4, u5, u6, u7, u8, u9, u10⟩ := hSw); (go_simp; try rfl)⟩) (h := ?_)
                            simp only [Act.put, List.setIfInBounds_toArray, List.set_cons_zero, List.set_cons_succ]
                            refine wpAnyH_done (by kernel_rfl) ?_ _
                            as_aux_lemma =>
                              go_wp2_with fail
                              go_meet
                              exact ⟨rfl, T1⟩
                        case rest =>
                          obtain ⟨rfl, S⟩ := hcut
                          replace S := Lib.hid S.below
                          clear KY
                          go_wp2
                          go_ret
                          exact ⟨rfl, S.out⟩
set_option maxRecDepth 100000 in
theorem lifted (os : Os) (started : os.Started) (H : Type) (enc : TypeId × Value → H) :
    ReturnsInHanded {} Try.checked os 6 .any (Rows.objectSpaceSpec.pre6 enc Try.prog Try.f6 Rows.objectSpaceRow.domain false) (Rows.objectSpaceSpec.post enc Try.prog Try.f6 false true false false) := by
  refine law_lift (C := Try.checked) own started (by kernel_rfl) Try.func6
    (ChangeSpec.witness6 (enc := enc) (C := Try.checked) false ⟨#[], #[.slice none 0 0, .agg #[.int .i64 0, .int .i64 0, .string ⟨#[]⟩, .int .i64 0, .int .i64 0, .string ⟨#[]⟩]], []⟩ 8 (by kernel_rfl) (by kernel_rfl) (by kernel_rfl) (by kernel_rfl))
    (by kernel_rfl) (by kernel_rfl) rfl (fun ds h => by
      match ds, h with
      | [d1, d2], _ => exact ⟨rfl, rfl, rfl⟩) rfl Try.underlying4 ?_
  intro W base args ds ps hval hA hlt hwt hsh
  rw [Try.params6] at hA hval
  obtain ⟨v0, vs0, d0, ds0, p0, q0, hargs, rfl, rfl, h0, r0⟩ := trodAll_cons hA
  obtain ⟨v1, vs1, d1, ds1, p1, q1, rfl, rfl, rfl, h1, r1⟩ := trodAll_cons r0
  obtain ⟨rfl, rfl, rfl⟩ := trodAll_nil r1
  obtain rfl : args = #[v0, v1] := by cases args; simp_all
  obtain ⟨x0, len0, cap0, rfl⟩ := okWide_slice Try.underlying59 (hval 0 59 v0 rfl rfl)
  obtain ⟨fuel0, hf0⟩ := h0
  obtain ⟨l0, s0⟩ := open_pairs (v := .slice x0 len0 cap0) hf0
  obtain ⟨cs1, rfl, hsz1⟩ := okWide_array Try.underlying60 (hval 1 60 v1 rfl rfl)
  obtain ⟨fuel1, hf1⟩ := h1
  obtain ⟨p1x, e1⟩ := pair_of_trod (cs := cs1.toList) hf1
  obtain rfl : cs1 = (pairC p1x).toArray := by rw [← e1]
  -- WALK
  obtain rfl : len0 = l0.length := by obtain ⟨_, _, e, _⟩ := s0; exact (Value.slice.inj e).2.1
  exact walk W x0 cap0 l0 s0 p1x.1 p1x.2
theorem proved : Rows.ObjectSpaceSaid :=
  OpenClaim.holds_of_wide 6 Try.f6 rfl rfl rfl rfl rfl rfl rfl ⟨rfl, rfl, rfl, rfl, rfl⟩ rfl rfl rfl rfl rfl (by kernel_rfl) Try.func6 (by kernel_rfl)
    (of_decide_eq_true (by kernel_rfl)) (by unfold Func.isWrapper; first | (rw [if_pos (by decide +kernel)]; kernel_rfl) | (rw [if_neg (by decide +kernel)]; exact ⟨rfl, rfl⟩))
    (fun os started H enc _ => lifted os started H enc)
#print axioms proved
end Go.Proofs.Ytkocenlglodklaa.objectSpace
