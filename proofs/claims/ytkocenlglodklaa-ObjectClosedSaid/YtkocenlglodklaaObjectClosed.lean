/-
  ObjectClosed: for any classes, any value and any name the law returns true: what is no instance, and no class, has no attributes, and nothing can be set; nothing is made, and nothing changes. No condition.
-/
import Derived.Test.YtkocenlglodklaaShowC
import Derived.Test.YtkocenlglodklaaMade14
import Derived.Test.YtkocenlglodklaaObjK
import Derived.Test.YtkocenlglodklaaIn14
namespace Go.Proofs.Ytkocenlglodklaa
set_option linter.unusedSimpArgs false
open Go.RowKit
set_option linter.unusedVariables false
section
variable {w W : World} {Rs : List Res} {h : Nat} {H : HeapM} {v : V}
theorem closed_class (hk : H.kind v ≠ 5) : H.isClass v = false := by simp [HeapM.isClass, hk]
theorem closed_of (hk : H.kind v ≠ 6) : H.ofM v = none := by unfold HeapM.ofM; rw [if_neg (fun h => hk h.1)]
theorem closed_opens (h5 : H.kind v ≠ 5) (h6 : H.kind v ≠ 6) : H.opens v = false := by unfold HeapM.opens; rw [closed_of h6, closed_class h5]; rfl
theorem closed_get (h5 : H.kind v ≠ 5) (h6 : H.kind v ≠ 6) (k : V) : H.getA v k = none := by
  unfold HeapM.getA; rw [closed_class h5, closed_of h6]; rfl
theorem closed_spec (h6 : H.kind v ≠ 6) (k : V) : H.specM v k = (zeroV, false, H) := by unfold HeapM.specM; rw [closed_of h6]; rfl
theorem closed_find (h5 : H.kind v ≠ 5) (k : V) : H.find v k = none := by unfold HeapM.find; rw [order_no (closed_class h5)]; rfl
theorem closed_sub (h5 : H.kind v ≠ 5) : H.subM v v = false := by unfold HeapM.subM; rw [closed_class h5]; rfl
theorem kc_get (S : Sep w Rs W) (i : Nat) (hi : Rs[i]? = some (heapR h H)) {N : Nat} (F : H.Fit N) (hN : N + 1 ≤ 4000000) (h5 : H.kind v ≠ 5) (h6 : H.kind v ≠ 6) (s : ByteArray) (hs : s.size ≤ maxLen) :
    Calls Try.prog 21 #[.pointer (some ⟨h, 0, none⟩), .agg #[.int .i64 v.kind, .int .i64 v.n, .string v.s], .string s] W fun e W' => e = .returned (.tuple #[zeroV, excA s]) ∧ Sep w Rs W' := by
  have := get_ok S i hi F hN v s hs
  rw [closed_get h5 h6] at this
  exact this
theorem kc_spec (S : Sep w Rs W) (i : Nat) (hi : Rs[i]? = some (heapR h H)) {N : Nat} (F : H.Fit N) (hN : N + 1 ≤ 4000000) (h6 : H.kind v ≠ 6) (s : ByteArray) (hs : s.size ≤ maxLen) :
    Calls Try.prog 22 #[.pointer (some ⟨h, 0, none⟩), .agg #[.int .i64 v.kind, .int .i64 v.n, .string v.s], .string s] W fun e W' => e = .returned (.tuple #[zeroV, .bool false]) ∧ Sep w Rs W' := by
  have := special_ok S i hi F hN v s hs
  rw [closed_spec h6] at this
  simp only [Sep.setSame hi] at this
  exact this
theorem kc_find (S : Sep w Rs W) (i : Nat) (hi : Rs[i]? = some (heapR h H)) {N : Nat} (F : H.Fit N) (hN : N + 1 ≤ 4000000) (h5 : H.kind v ≠ 5) (s : ByteArray) (hs : s.size ≤ maxLen) :
    Calls Try.prog 16 #[.pointer (some ⟨h, 0, none⟩), .agg #[.int .i64 v.kind, .int .i64 v.n, .string v.s], .string s] W fun e W' => e = .returned (.tuple #[zeroV, .bool false]) ∧ Sep w Rs W' := by
  have := find_ok S i hi F.G (by omega) v s hs
  rw [closed_find h5] at this
  exact this
theorem kc_of (S : Sep w Rs W) (i : Nat) (hi : Rs[i]? = some (heapR h H)) (h6 : H.kind v ≠ 6) :
    Calls Try.prog 40 #[.pointer (some ⟨h, 0, none⟩), .agg #[.int .i64 v.kind, .int .i64 v.n, .string v.s]] W fun e W' => e = .returned (.tuple #[zeroV, .bool false]) ∧ Sep w Rs W' := by
  have := of_ok S i hi v
  rw [closed_of h6] at this
  exact this
theorem kc_ord (S : Sep w Rs W) (i : Nat) (hi : Rs[i]? = some (heapR h H)) {N : Nat} (F : H.Fit N) (hN : N + 1 ≤ 4000000) (h5 : H.kind v ≠ 5) :
    Calls Try.prog 15 #[.pointer (some ⟨h, 0, none⟩), .agg #[.int .i64 v.kind, .int .i64 v.n, .string v.s]] W fun e W' => ∃ a c, e = .returned (.slice a 0 c) ∧ Sep w Rs W' := by
  have := order_list S i hi F.G (by omega) v
  rw [order_no (closed_class h5)] at this
  refine this.mono fun e W' ⟨sv, h1, h2⟩ => ?_
  obtain ⟨a, c, hsv⟩ := (h2.row 0 rfl).form
  exact ⟨a, c, by rw [h1, hsv]; rfl, h2.tail⟩
theorem kc_sub (S : Sep w Rs W) (i : Nat) (hi : Rs[i]? = some (heapR h H)) {N : Nat} (F : H.Fit N) (hN : N + 1 ≤ 4000000) (h5 : H.kind v ≠ 5) :
    Calls Try.prog 14 #[.pointer (some ⟨h, 0, none⟩), .agg #[.int .i64 v.kind, .int .i64 v.n, .string v.s], .agg #[.int .i64 v.kind, .int .i64 v.n, .string v.s]] W fun e W' => e = .returned (.bool false) ∧ Sep w Rs W' := by
  have := sub_ok S i hi F.G (by omega) v v
  rw [closed_sub h5] at this
  exact this
theorem kc_live (S : Sep w Rs W) (i : Nat) (hi : Rs[i]? = some (heapR h H)) {N : Nat} (F : H.Fit N) (hN : N + 1 ≤ 4000000) (k : Int) :
    Calls Try.prog 38 #[.pointer (some ⟨h, 0, none⟩), .int .i64 k] W fun e W' => e = .returned (.int .i64 (H.live k)) ∧ Sep w Rs W' :=
  (S.live i hi F.G (by omega) k).mono fun e W' ⟨e1, e2, _⟩ => ⟨e1, e2⟩
theorem kc_kind (S : Sep w Rs W) (i : Nat) (hi : Rs[i]? = some (heapR h H)) :
    Calls Try.prog 23 #[.pointer (some ⟨h, 0, none⟩), .agg #[.int .i64 v.kind, .int .i64 v.n, .string v.s]] W fun e W' => e = .returned (.int .i64 (H.kind v)) ∧ Sep w Rs W' :=
  (S.kind i hi v).mono fun e W' ⟨e1, e2, _⟩ => ⟨e1, e2⟩
end
end Go.Proofs.Ytkocenlglodklaa
namespace Go.Proofs.Ytkocenlglodklaa.objectClosed
set_option linter.unusedSimpArgs false
open Go.ChangeShapes Go.WideShapes Go.ChangeAt Go.RowKit
open Go.ChangeMaps (open_string)
set_option maxRecDepth 100000 in
set_option maxHeartbeats 12800000 in
theorem walk (w : World) (sB sH : Value) (B : SomeIn w sB sH) (v : V) (nm : ByteArray) (hnm : nm.size ≤ maxLen) :
    Calls Try.prog 9 #[.agg #[sB, sH], v.val, .string nm] w fun e W' => e = .returned (.bool true) ∧ Below w.heap.size w W' := by
  obtain ⟨b, hb⟩ : ∃ gx_, (w.heap.size) = gx_ := ⟨_, rfl⟩
  have S := ((Sep.start (Below.refl w.heap.size w)).alloc (.cells #[sB, sH] 25)).alloc (.cells #[.int .i64 v.kind, .int .i64 v.n, .string v.s] 33)
  simp only [World.size_alloc, hb] at S
  replace S : Sep w (boxR (b + 1) (.cells #[.int .i64 v.kind, .int .i64 v.n, .string v.s] 33) :: boxR b (.cells #[sB, sH] 25) :: []) _ := S
  have hnl : (nm.size : Int) ≤ 9223372036854775807 := by unfold maxLen at hnm; omega
  have M0 := Lib.hid ((shown_ok ((w.alloc (.cells #[sB, sH] 25)).alloc (.cells #[.int .i64 v.kind, .int .i64 v.n, .string v.s] 33))).mono fun e W1 (hh : _ ∧ _) => (⟨hh.1, S.later hh.2⟩ : _ ∧ Sep w (boxR (b + 1) (.cells #[.int .i64 v.kind, .int .i64 v.n, .string v.s] 33) :: boxR b (.cells #[sB, sH] 25) :: []) W1))
  simp only [V.val]
  clear S
  go_enter Try.func9, Try.ntmps9
  go_wp2_with fail
  try simp only [hb]
  refine M0.out.mono ?_
  rintro e w1 ⟨rfl, S⟩
  clear M0 hb
  replace S := Lib.hid S
  go_upto_region 2 with fail
  go_cut [2] from 24 (fun s2 wx => ∃ s : ByteArray, s.size ≤ maxLen ∧ s2 = .string s ∧ wx = w1)
  case first =>
    go_wp2_with fail
    all_goals (go_meet; refine ⟨_, ?_, rfl, rfl⟩)
    · first | exact hnm | (rw [ByteArray.size_extract]; unfold maxLen; omega)
    · first | exact hnm | (rw [ByteArray.size_extract]; unfold maxLen; omega)
  case rest =>
    obtain ⟨s, hs, rfl, rfl⟩ := hcut
    replace S := S.out
    have d0 := cellAt (S.box (b := b) 1 rfl) 0 (v := sB) rfl
    have d1 := cellAt (S.box (b := b) 1 rfl) 1 (v := sH) rfl
    have MM := Lib.hid (B.made S)
    clear S
    go_wp2_with fail
    refine MM.out.mono ?_
    rintro e w2 ⟨h, oa, oc, H, out, rfl, M, S⟩
    clear MM d0 d1
    replace S : Sep w (valsR (.slice oa out.length oc) out :: heapR h H :: boxR (b + 1) (.cells #[.int .i64 v.kind, .int .i64 v.n, .string v.s] 33) :: boxR b (.cells #[sB, sH] 25) :: []) _ := S
    have F := Lib.hid M.fit
    clear M B
    have d0 := cellAt (S.box (b := b + 1) 2 rfl) 0 (v := .int .i64 v.kind) rfl
    have d1 := cellAt (S.box (b := b + 1) 2 rfl) 1 (v := .int .i64 v.n) rfl
    have d2 := cellAt (S.box (b := b + 1) 2 rfl) 2 (v := .string v.s) rfl
    have M := Lib.hid (kc_kind (v := v) S 1 rfl)
    clear S
    go_wp2_with fail
    refine M.out.mono ?_
    rintro e w3 ⟨rfl, S⟩
    clear M d0 d1 d2
    replace S : Sep w (valsR (.slice oa out.length oc) out :: heapR h H :: boxR (b + 1) (.cells #[.int .i64 v.kind, .int .i64 v.n, .string v.s] 33) :: boxR b (.cells #[sB, sH] 25) :: []) _ := S
    by_cases h5 : H.kind v = 5
    · replace S := Lib.hid S.below
      rw [h5]
      clear h5
      go_wp2
      go_ret
      exact ⟨rfl, S.out⟩
    by_cases h6 : H.kind v = 6
    · replace S := Lib.hid S.below
      rw [h6]
      clear h6 h5
      go_wp2
      go_ret
      exact ⟨rfl, S.out⟩
    have HK := Lib.hid (And.intro h5 h6)
    obtain ⟨kd, hkd⟩ : ∃ gx_, (H.kind v) = gx_ := ⟨_, rfl⟩
    rw [hkd] at h5 h6 ⊢
    have g5 : (kd == 5) = false := by simp [h5]
    have g6 : (kd == 6) = false := by simp [h6]
    clear hkd h5 h6
    have M := Lib.hid (kc_live S 1 rfl F.out (by omega) 0)
    clear S
    go_wp2_with fail
    refine M.out.mono ?_
    rintro e w4 ⟨rfl, S⟩
    clear M
    replace S : Sep w (valsR (.slice oa out.length oc) out :: heapR h H :: boxR (b + 1) (.cells #[.int .i64 v.kind, .int .i64 v.n, .string v.s] 33) :: boxR b (.cells #[sB, sH] 25) :: []) _ := S
    clear g5 g6
    have M := Lib.hid ((str_ok w4 s).mono fun e W1 (hh : _ ∧ _) => (⟨hh.1, S.later hh.2⟩ : _ ∧ Sep w (valsR (.slice oa out.length oc) out :: heapR h H :: boxR (b + 1) (.cells #[.int .i64 v.kind, .int .i64 v.n, .string v.s] 33) :: boxR b (.cells #[sB, sH] 25) :: []) W1))
    clear S
    go_wp2_with fail
    refine M.out.mono ?_
    rintro e w5 ⟨rfl, S⟩
    clear M
    obtain ⟨xw, hxw⟩ : ∃ gx_, (w5.heap.size) = gx_ := ⟨_, rfl⟩
    replace S := (S.alloc (.cells #[.string attrError, .int .i64 3, .int .i64 0, .string s, .bool true] 45))
    simp only [World.size_alloc, hxw] at S
    replace S : Sep w (boxR xw (.cells #[.string attrError, .int .i64 3, .int .i64 0, .string s, .bool true] 45) :: valsR (.slice oa out.length oc) out :: heapR h H :: boxR (b + 1) (.cells #[.int .i64 v.kind, .int .i64 v.n, .string v.s] 33) :: boxR b (.cells #[sB, sH] 25) :: []) _ := S
    have d0 := cellAt (S.box (b := b + 1) 3 rfl) 0 (v := .int .i64 v.kind) rfl
    have d1 := cellAt (S.box (b := b + 1) 3 rfl) 1 (v := .int .i64 v.n) rfl
    have d2 := cellAt (S.box (b := b + 1) 3 rfl) 2 (v := .string v.s) rfl
    have M := Lib.hid (kc_get (v := v) S 2 rfl F.out (by omega) HK.out.1 HK.out.2 s hs)
    clear S
    go_wp2_with fail
    try simp only [hxw]
    refine M.out.mono ?_
    rintro e w6 ⟨rfl, S⟩
    clear M d0 d1 d2 hxw
    replace S : Sep w (boxR xw (.cells #[.string attrError, .int .i64 3, .int .i64 0, .string s, .bool true] 45) :: valsR (.slice oa out.length oc) out :: heapR h H :: boxR (b + 1) (.cells #[.int .i64 v.kind, .int .i64 v.n, .string v.s] 33) :: boxR b (.cells #[sB, sH] 25) :: []) _ := S
    obtain ⟨x13, hx13⟩ : ∃ gx_, (w6.heap.size) = gx_ := ⟨_, rfl⟩
    replace S := ((S.alloc (.cells #[.int .i64 0, .int .i64 0, .string ⟨#[]⟩] 33)).alloc (.cells #[.string attrError, .int .i64 3, .int .i64 0, .string s, .bool true] 45))
    simp only [World.size_alloc, hx13] at S
    replace S : Sep w (boxR (x13 + 1) (.cells #[.string attrError, .int .i64 3, .int .i64 0, .string s, .bool true] 45) :: boxR x13 (.cells #[.int .i64 0, .int .i64 0, .string ⟨#[]⟩] 33) :: boxR xw (.cells #[.string attrError, .int .i64 3, .int .i64 0, .string s, .bool true] 45) :: valsR (.slice oa out.length oc) out :: heapR h H :: boxR (b + 1) (.cells #[.int .i64 v.kind, .int .i64 v.n, .string v.s] 33) :: boxR b (.cells #[sB, sH] 25) :: []) _ := S
    have d0 := cellAt (S.box (b := b + 1) 5 rfl) 0 (v := .int .i64 v.kind) rfl
    have d1 := cellAt (S.box (b := b + 1) 5 rfl) 1 (v := .int .i64 v.n) rfl
    have d2 := cellAt (S.box (b := b + 1) 5 rfl) 2 (v := .string v.s) rfl
    have M := Lib.hid (kc_spec (v := v) S 4 rfl F.out (by omega) HK.out.2 s hs)
    clear S
    go_wp2_with fail
    try simp only [hx13]
    refine M.out.mono ?_
    rintro e w7 ⟨rfl, S⟩
    clear M d0 d1 d2 hx13
    replace S : Sep w (boxR (x13 + 1) (.cells #[.string attrError, .int .i64 3, .int .i64 0, .string s, .bool true] 45) :: boxR x13 (.cells #[.int .i64 0, .int .i64 0, .string ⟨#[]⟩] 33) :: boxR xw (.cells #[.string attrError, .int .i64 3, .int .i64 0, .string s, .bool true] 45) :: valsR (.slice oa out.length oc) out :: heapR h H :: boxR (b + 1) (.cells #[.int .i64 v.kind, .int .i64 v.n, .string v.s] 33) :: boxR b (.cells #[sB, sH] 25) :: []) _ := S
    obtain ⟨x15, hx15⟩ : ∃ gx_, (w7.heap.size) = gx_ := ⟨_, rfl⟩
    replace S := (S.alloc (.cells #[.int .i64 0, .int .i64 0, .string ⟨#[]⟩] 33))
    simp only [World.size_alloc, hx15] at S
    replace S : Sep w (boxR x15 (.cells #[.int .i64 0, .int .i64 0, .string ⟨#[]⟩] 33) :: boxR (x13 + 1) (.cells #[.string attrError, .int .i64 3, .int .i64 0, .string s, .bool true] 45) :: boxR x13 (.cells #[.int .i64 0, .int .i64 0, .string ⟨#[]⟩] 33) :: boxR xw (.cells #[.string attrError, .int .i64 3, .int .i64 0, .string s, .bool true] 45) :: valsR (.slice oa out.length oc) out :: heapR h H :: boxR (b + 1) (.cells #[.int .i64 v.kind, .int .i64 v.n, .string v.s] 33) :: boxR b (.cells #[sB, sH] 25) :: []) _ := S
    have d0 := cellAt (S.box (b := b + 1) 6 rfl) 0 (v := .int .i64 v.kind) rfl
    have d1 := cellAt (S.box (b := b + 1) 6 rfl) 1 (v := .int .i64 v.n) rfl
    have d2 := cellAt (S.box (b := b + 1) 6 rfl) 2 (v := .string v.s) rfl
    have M := Lib.hid (instance_no S 5 rfl v (closed_class HK.out.1))
    clear S
    go_wp2_with fail
    try simp only [hx15]
    refine M.out.mono ?_
    rintro e w8 ⟨rfl, S⟩
    clear M d0 d1 d2 hx15
    replace S : Sep w (boxR x15 (.cells #[.int .i64 0, .int .i64 0, .string ⟨#[]⟩] 33) :: boxR (x13 + 1) (.cells #[.string attrError, .int .i64 3, .int .i64 0, .string s, .bool true] 45) :: boxR x13 (.cells #[.int .i64 0, .int .i64 0, .string ⟨#[]⟩] 33) :: boxR xw (.cells #[.string attrError, .int .i64 3, .int .i64 0, .string s, .bool true] 45) :: valsR (.slice oa out.length oc) out :: heapR h H :: boxR (b + 1) (.cells #[.int .i64 v.kind, .int .i64 v.n, .string v.s] 33) :: boxR b (.cells #[sB, sH] 25) :: []) _ := S
    obtain ⟨x17, hx17⟩ : ∃ gx_, (w8.heap.size) = gx_ := ⟨_, rfl⟩
    replace S := (S.alloc (.cells #[.int .i64 0, .int .i64 0, .string ⟨#[]⟩] 33))
    simp only [World.size_alloc, hx17] at S
    replace S : Sep w (boxR x17 (.cells #[.int .i64 0, .int .i64 0, .string ⟨#[]⟩] 33) :: boxR x15 (.cells #[.int .i64 0, .int .i64 0, .string ⟨#[]⟩] 33) :: boxR (x13 + 1) (.cells #[.string attrError, .int .i64 3, .int .i64 0, .string s, .bool true] 45) :: boxR x13 (.cells #[.int .i64 0, .int .i64 0, .string ⟨#[]⟩] 33) :: boxR xw (.cells #[.string attrError, .int .i64 3, .int .i64 0, .string s, .bool true] 45) :: valsR (.slice oa out.length oc) out :: heapR h H :: boxR (b + 1) (.cells #[.int .i64 v.kind, .int .i64 v.n, .string v.s] 33) :: boxR b (.cells #[sB, sH] 25) :: []) _ := S
    have d0 := cellAt (S.box (b := b + 1) 7 rfl) 0 (v := .int .i64 v.kind) rfl
    have d1 := cellAt (S.box (b := b + 1) 7 rfl) 1 (v := .int .i64 v.n) rfl
    have d2 := cellAt (S.box (b := b + 1) 7 rfl) 2 (v := .string v.s) rfl
    have M := Lib.hid (kc_find (v := v) S 6 rfl F.out (by omega) HK.out.1 s hs)
    clear S
    go_wp2_with fail
    try simp only [hx17]
    refine M.out.mono ?_
    rintro e w9 ⟨rfl, S⟩
    clear M d0 d1 d2 hx17
    replace S : Sep w (boxR x17 (.cells #[.int .i64 0, .int .i64 0, .string ⟨#[]⟩] 33) :: boxR x15 (.cells #[.int .i64 0, .int .i64 0, .string ⟨#[]⟩] 33) :: boxR (x13 + 1) (.cells #[.string attrError, .int .i64 3, .int .i64 0, .string s, .bool true] 45) :: boxR x13 (.cells #[.int .i64 0, .int .i64 0, .string ⟨#[]⟩] 33) :: boxR xw (.cells #[.string attrError, .int .i64 3, .int .i64 0, .string s, .bool true] 45) :: valsR (.slice oa out.length oc) out :: heapR h H :: boxR (b + 1) (.cells #[.int .i64 v.kind, .int .i64 v.n, .string v.s] 33) :: boxR b (.cells #[sB, sH] 25) :: []) _ := S
    obtain ⟨x19, hx19⟩ : ∃ gx_, (w9.heap.size) = gx_ := ⟨_, rfl⟩
    replace S := (S.alloc (.cells #[.int .i64 0, .int .i64 0, .string ⟨#[]⟩] 33))
    simp only [World.size_alloc, hx19] at S
    replace S : Sep w (boxR x19 (.cells #[.int .i64 0, .int .i64 0, .string ⟨#[]⟩] 33) :: boxR x17 (.cells #[.int .i64 0, .int .i64 0, .string ⟨#[]⟩] 33) :: boxR x15 (.cells #[.int .i64 0, .int .i64 0, .string ⟨#[]⟩] 33) :: boxR (x13 + 1) (.cells #[.string attrError, .int .i64 3, .int .i64 0, .string s, .bool true] 45) :: boxR x13 (.cells #[.int .i64 0, .int .i64 0, .string ⟨#[]⟩] 33) :: boxR xw (.cells #[.string attrError, .int .i64 3, .int .i64 0, .string s, .bool true] 45) :: valsR (.slice oa out.length oc) out :: heapR h H :: boxR (b + 1) (.cells #[.int .i64 v.kind, .int .i64 v.n, .string v.s] 33) :: boxR b (.cells #[sB, sH] 25) :: []) _ := S
    have d0 := cellAt (S.box (b := b + 1) 8 rfl) 0 (v := .int .i64 v.kind) rfl
    have d1 := cellAt (S.box (b := b + 1) 8 rfl) 1 (v := .int .i64 v.n) rfl
    have d2 := cellAt (S.box (b := b + 1) 8 rfl) 2 (v := .string v.s) rfl
    have M := Lib.hid (kc_of (v := v) S 7 rfl HK.out.2)
    clear S
    go_wp2_with fail
    try simp only [hx19]
    refine M.out.mono ?_
    rintro e w10 ⟨rfl, S⟩
    clear M d0 d1 d2 hx19
    replace S : Sep w (boxR x19 (.cells #[.int .i64 0, .int .i64 0, .string ⟨#[]⟩] 33) :: boxR x17 (.cells #[.int .i64 0, .int .i64 0, .string ⟨#[]⟩] 33) :: boxR x15 (.cells #[.int .i64 0, .int .i64 0, .string ⟨#[]⟩] 33) :: boxR (x13 + 1) (.cells #[.string attrError, .int .i64 3, .int .i64 0, .string s, .bool true] 45) :: boxR x13 (.cells #[.int .i64 0, .int .i64 0, .string ⟨#[]⟩] 33) :: boxR xw (.cells #[.string attrError, .int .i64 3, .int .i64 0, .string s, .bool true] 45) :: valsR (.slice oa out.length oc) out :: heapR h H :: boxR (b + 1) (.cells #[.int .i64 v.kind, .int .i64 v.n, .string v.s] 33) :: boxR b (.cells #[sB, sH] 25) :: []) _ := S
    obtain ⟨x21, hx21⟩ : ∃ gx_, (w10.heap.size) = gx_ := ⟨_, rfl⟩
    replace S := ((S.alloc (.cells #[.int .i64 0, .int .i64 0, .string ⟨#[]⟩] 33)).alloc (.cells #[.int .i64 0, .int .i64 0, .string ⟨#[]⟩] 33))
    simp only [World.size_alloc, hx21] at S
    replace S : Sep w (boxR (x21 + 1) (.cells #[.int .i64 0, .int .i64 0, .string ⟨#[]⟩] 33) :: boxR x21 (.cells #[.int .i64 0, .int .i64 0, .string ⟨#[]⟩] 33) :: boxR x19 (.cells #[.int .i64 0, .int .i64 0, .string ⟨#[]⟩] 33) :: boxR x17 (.cells #[.int .i64 0, .int .i64 0, .string ⟨#[]⟩] 33) :: boxR x15 (.cells #[.int .i64 0, .int .i64 0, .string ⟨#[]⟩] 33) :: boxR (x13 + 1) (.cells #[.string attrError, .int .i64 3, .int .i64 0, .string s, .bool true] 45) :: boxR x13 (.cells #[.int .i64 0, .int .i64 0, .string ⟨#[]⟩] 33) :: boxR xw (.cells #[.string attrError, .int .i64 3, .int .i64 0, .string s, .bool true] 45) :: valsR (.slice oa out.length oc) out :: heapR h H :: boxR (b + 1) (.cells #[.int .i64 v.kind, .int .i64 v.n, .string v.s] 33) :: boxR b (.cells #[sB, sH] 25) :: []) _ := S
    have d0 := cellAt (S.box (b := xw) 7 rfl) 0 (v := .string attrError) rfl
    have d1 := cellAt (S.box (b := xw) 7 rfl) 1 (v := .int .i64 3) rfl
    have d2 := cellAt (S.box (b := xw) 7 rfl) 2 (v := .int .i64 0) rfl
    have d3 := cellAt (S.box (b := xw) 7 rfl) 3 (v := .string s) rfl
    have d4 := cellAt (S.box (b := xw) 7 rfl) 4 (v := .bool true) rfl
    have d5 := cellAt (S.box (b := x13) 6 rfl) 0 (v := .int .i64 0) rfl
    have d6 := cellAt (S.box (b := x13) 6 rfl) 1 (v := .int .i64 0) rfl
    have d7 := cellAt (S.box (b := x13) 6 rfl) 2 (v := .string ⟨#[]⟩) rfl
    have d8 := cellAt (S.box (b := x13 + 1) 5 rfl) 0 (v := .string attrError) rfl
    have d9 := cellAt (S.box (b := x13 + 1) 5 rfl) 1 (v := .int .i64 3) rfl
    have d10 := cellAt (S.box (b := x13 + 1) 5 rfl) 2 (v := .int .i64 0) rfl
    have d11 := cellAt (S.box (b := x13 + 1) 5 rfl) 3 (v := .string s) rfl
    have d12 := cellAt (S.box (b := x13 + 1) 5 rfl) 4 (v := .bool true) rfl
    have d13 := cellAt (S.box (b := x15) 4 rfl) 0 (v := .int .i64 0) rfl
    have d14 := cellAt (S.box (b := x15) 4 rfl) 1 (v := .int .i64 0) rfl
    have d15 := cellAt (S.box (b := x15) 4 rfl) 2 (v := .string ⟨#[]⟩) rfl
    have d16 := cellAt (S.box (b := x17) 3 rfl) 0 (v := .int .i64 0) rfl
    have d17 := cellAt (S.box (b := x17) 3 rfl) 1 (v := .int .i64 0) rfl
    have d18 := cellAt (S.box (b := x17) 3 rfl) 2 (v := .string ⟨#[]⟩) rfl
    have d19 := cellAt (S.box (b := x19) 2 rfl) 0 (v := .int .i64 0) rfl
    have d20 := cellAt (S.box (b := x19) 2 rfl) 1 (v := .int .i64 0) rfl
    have d21 := cellAt (S.box (b := x19) 2 rfl) 2 (v := .string ⟨#[]⟩) rfl
    have d22 := cellAt (S.box (b := x21) 1 rfl) 0 (v := .int .i64 0) rfl
    have d23 := cellAt (S.box (b := x21) 1 rfl) 1 (v := .int .i64 0) rfl
    have d24 := cellAt (S.box (b := x21) 1 rfl) 2 (v := .string ⟨#[]⟩) rfl
    have d25 := cellAt (S.box (b := x21 + 1) 0 rfl) 0 (v := .int .i64 0) rfl
    have d26 := cellAt (S.box (b := x21 + 1) 0 rfl) 1 (v := .int .i64 0) rfl
    have d27 := cellAt (S.box (b := x21 + 1) 0 rfl) 2 (v := .string ⟨#[]⟩) rfl
    have EQN : ∀ W, (binOp .neq 45 (excA s) (excA s)).run Try.prog W = .ok (.bool false) W := fun W => by go_simp
    have EQA : ∀ W, (binOp .eql 45 (excA s) (excA s)).run Try.prog W = .ok (.bool true) W := fun W => by go_simp
    obtain ⟨baseA, hbaseA⟩ : ∃ base, base = boxR (x21 + 1) (.cells #[.int .i64 0, .int .i64 0, .string ⟨#[]⟩] 33) :: boxR x21 (.cells #[.int .i64 0, .int .i64 0, .string ⟨#[]⟩] 33) :: boxR x19 (.cells #[.int .i64 0, .int .i64 0, .string ⟨#[]⟩] 33) :: boxR x17 (.cells #[.int .i64 0, .int .i64 0, .string ⟨#[]⟩] 33) :: boxR x15 (.cells #[.int .i64 0, .int .i64 0, .string ⟨#[]⟩] 33) :: boxR (x13 + 1) (.cells #[.string attrError, .int .i64 3, .int .i64 0, .string s, .bool true] 45) :: boxR x13 (.cells #[.int .i64 0, .int .i64 0, .string ⟨#[]⟩] 33) :: boxR xw (.cells #[.string attrError, .int .i64 3, .int .i64 0, .string s, .bool true] 45) :: valsR (.slice oa out.length oc) out :: heapR h H :: boxR (b + 1) (.cells #[.int .i64 v.kind, .int .i64 v.n, .string v.s] 33) :: boxR b (.cells #[sB, sH] 25) :: [] := ⟨_, rfl⟩
    have HbaseA := Lib.hid hbaseA
    have KbaseA : Hid (∀ W (Q : List Res), Sep w (Q ++ baseA) W → W.cell? ⟨b + 1, 0, none⟩ = some (.int .i64 v.kind) ∧ W.cell? ⟨b + 1, 1, none⟩ = some (.int .i64 v.n) ∧ W.cell? ⟨b + 1, 2, none⟩ = some (.string v.s) ∧ W.cell? ⟨xw, 0, none⟩ = some (.string attrError) ∧ W.cell? ⟨xw, 1, none⟩ = some (.int .i64 3) ∧ W.cell? ⟨xw, 2, none⟩ = some (.int .i64 0) ∧ W.cell? ⟨xw, 3, none⟩ = some (.string s) ∧ W.cell? ⟨xw, 4, none⟩ = some (.bool true)) := Lib.hid fun W Q T => by
      rw [hbaseA] at T
      have i0 := T.box (b := b + 1) (o := .cells #[.int .i64 v.kind, .int .i64 v.n, .string v.s] 33) (Q.length + 10) (by rw [List.getElem?_append_right (by omega), Nat.add_sub_cancel_left]; rfl)
      have i1 := T.box (b := xw) (o := .cells #[.string attrError, .int .i64 3, .int .i64 0, .string s, .bool true] 45) (Q.length + 7) (by rw [List.getElem?_append_right (by omega), Nat.add_sub_cancel_left]; rfl)
      exact ⟨cellAt i0 0 rfl, cellAt i0 1 rfl, cellAt i0 2 rfl, cellAt i1 0 rfl, cellAt i1 1 rfl, cellAt i1 2 rfl, cellAt i1 3 rfl, cellAt i1 4 rfl⟩
    have KS : Hid (∀ W (Q : List Res), Sep w (Q ++ baseA) W → Calls Try.prog 20 #[.pointer (some ⟨h, 0, none⟩), .agg #[.int .i64 v.kind, .int .i64 v.n, .string v.s], .string s, .agg #[.int .i64 v.kind, .int .i64 v.n, .string v.s]] W fun e W' => e = .returned (excA s) ∧ Sep w (Q ++ baseA) W') := Lib.hid fun W Q T => by
      rw [HbaseA.out] at T
      rw [HbaseA.out]
      have hh := set_no T (Q.length + 9) (by rw [List.getElem?_append_right (by omega), Nat.add_sub_cancel_left]; rfl) v v s (closed_opens HK.out.1 HK.out.2)
      try rw [List.set_append_right _ _ (by omega), Nat.add_sub_cancel_left] at hh
      exact hh
    have KD : Hid (∀ W (Q : List Res), Sep w (Q ++ baseA) W → Calls Try.prog 37 #[.pointer (some ⟨h, 0, none⟩), .agg #[.int .i64 v.kind, .int .i64 v.n, .string v.s], .string s] W fun e W' => e = .returned (excA s) ∧ Sep w (Q ++ baseA) W') := Lib.hid fun W Q T => by
      rw [HbaseA.out] at T
      rw [HbaseA.out]
      have hh := del_no T (Q.length + 9) (by rw [List.getElem?_append_right (by omega), Nat.add_sub_cancel_left]; rfl) v s (closed_opens HK.out.1 HK.out.2)
      try rw [List.set_append_right _ _ (by omega), Nat.add_sub_cancel_left] at hh
      exact hh
    have KO : Hid (∀ W (Q : List Res), Sep w (Q ++ baseA) W → Calls Try.prog 15 #[.pointer (some ⟨h, 0, none⟩), .agg #[.int .i64 v.kind, .int .i64 v.n, .string v.s]] W fun e W' => ∃ a c, e = .returned (.slice a 0 c) ∧ Sep w (Q ++ baseA) W') := Lib.hid fun W Q T => by
      rw [HbaseA.out] at T ⊢
      exact kc_ord T (Q.length + 9) (by rw [List.getElem?_append_right (by omega), Nat.add_sub_cancel_left]; rfl) F.out (by omega) HK.out.1
    have KU : Hid (∀ W (Q : List Res), Sep w (Q ++ baseA) W → Calls Try.prog 14 #[.pointer (some ⟨h, 0, none⟩), .agg #[.int .i64 v.kind, .int .i64 v.n, .string v.s], .agg #[.int .i64 v.kind, .int .i64 v.n, .string v.s]] W fun e W' => e = .returned (.bool false) ∧ Sep w (Q ++ baseA) W') := Lib.hid fun W Q T => by
      rw [HbaseA.out] at T
      rw [HbaseA.out]
      have hh := kc_sub (v := v) T (Q.length + 9) (by rw [List.getElem?_append_right (by omega), Nat.add_sub_cancel_left]; rfl) F.out (by omega) HK.out.1
      try rw [List.set_append_right _ _ (by omega), Nat.add_sub_cancel_left] at hh
      exact hh
    have KL : Hid (∀ W (Q : List Res), Sep w (Q ++ baseA) W → Calls Try.prog 38 #[.pointer (some ⟨h, 0, none⟩), .int .i64 0] W fun e W' => e = .returned (.int .i64 (H.live 0)) ∧ Sep w (Q ++ baseA) W') := Lib.hid fun W Q T => by
      rw [HbaseA.out] at T
      rw [HbaseA.out]
      have hh := kc_live T (Q.length + 9) (by rw [List.getElem?_append_right (by omega), Nat.add_sub_cancel_left]; rfl) F.out (by omega) 0
      try rw [List.set_append_right _ _ (by omega), Nat.add_sub_cancel_left] at hh
      exact hh
    replace S : Sep w baseA ((w10.alloc (.cells #[.int .i64 0, .int .i64 0, .string ⟨#[]⟩] 33)).alloc (.cells #[.int .i64 0, .int .i64 0, .string ⟨#[]⟩] 33)) := by rw [hbaseA]; exact S
    replace S := Lib.hid S
    clear hbaseA
    go_upto_region 19 with fail
    try simp only [hx21]
    obtain ⟨Wd19, hW⟩ : ∃ gx_, (((w10.alloc (.cells #[.int .i64 0, .int .i64 0, .string ⟨#[]⟩] 33)).alloc (.cells #[.int .i64 0, .int .i64 0, .string ⟨#[]⟩] 33))) = gx_ := ⟨_, rfl⟩
    rw [hW] at S ⊢
    clear hW hx21
    clear d0 d1 d2 d3 d4 d5 d6 d7 d8 d9 d10 d11 d12 d13 d14 d15 d16 d17 d18 d19 d20 d21 d22 d23 d24 d25 d26 d27 EQN
    go_cut [6] (fun s6 wx => s6 = .bool true ∧ Below w.heap.size w wx)
    case first =>
      have T0 : Sep w ([] ++ baseA) _ := S.out.drew
      clear S
      as_aux_lemma =>
        refine wp_region_held_drew (S := fun W => W.cell? ⟨b + 1, 0, none⟩ = some (.int .i64 v.kind) ∧ W.cell? ⟨b + 1, 1, none⟩ = some (.int .i64 v.n) ∧ W.cell? ⟨b + 1, 2, none⟩ = some (.string v.s) ∧ W.cell? ⟨xw, 0, none⟩ = some (.string attrError) ∧ W.cell? ⟨xw, 1, none⟩ = some (.int .i64 3) ∧ W.cell? ⟨xw, 2, none⟩ = some (.int .i64 0) ∧ W.cell? ⟨xw, 3, none⟩ = some (.string s) ∧ W.cell? ⟨xw, 4, none⟩ = some (.bool true)) (by kernel_rfl) (KbaseA.out _ [] T0) (fun hH => ?_)
        refine takeT 0 hH (hy := .inl ⟨by rfl, by (intro w hSw; try obtain ⟨u0, u1, u2, u3, u4, u5, u6, u7⟩ := hSw); (go_simp; try rfl)⟩) (h := ?_)
        simp only [Act.put, List.setIfInBounds_toArray, List.set_cons_zero, List.set_cons_succ]
        refine takeT 1 hH (hy := .inl ⟨by rfl, by (intro w hSw; try obtain ⟨u0, u1, u2, u3, u4, u5, u6, u7⟩ := hSw); (go_simp; try rfl)⟩) (h := ?_)
        simp only [Act.put, List.setIfInBounds_toArray, List.set_cons_zero, List.set_cons_succ]
        refine takeT 2 hH (hy := .inl ⟨by rfl, by (intro w hSw; try obtain ⟨u0, u1, u2, u3, u4, u5, u6, u7⟩ := hSw); (go_simp; try rfl)⟩) (h := ?_)
        simp only [Act.put, List.setIfInBounds_toArray, List.set_cons_zero, List.set_cons_succ]
        refine takeT 3 hH (hy := .inl ⟨by rfl, by (intro w hSw; try obtain ⟨u0, u1, u2, u3, u4, u5, u6, u7⟩ := hSw); (go_simp; try rfl)⟩) (h := ?_)
        simp only [Act.put, List.setIfInBounds_toArray, List.set_cons_zero, List.set_cons_succ]
        refine takeT 4 hH (hy := .inl ⟨by rfl, by (intro w hSw; try obtain ⟨u0, u1, u2, u3, u4, u5, u6, u7⟩ := hSw); (go_simp; try rfl)⟩) (h := ?_)
        simp only [Act.put, List.setIfInBounds_toArray, List.set_cons_zero, List.set_cons_succ]
        refine takeT 5 hH (hy := .inl ⟨by rfl, by (intro w hSw; try obtain ⟨u0, u1, u2, u3, u4, u5, u6, u7⟩ := hSw); (go_simp; try rfl)⟩) (h := ?_)
        simp only [Act.put, List.setIfInBounds_toArray, List.set_cons_zero, List.set_cons_succ]
        refine takeT 7 hH (hy := .inl ⟨by rfl, by (intro w hSw; try obtain ⟨u0, u1, u2, u3, u4, u5, u6, u7⟩ := hSw); (go_simp; try rfl)⟩) (h := ?_)
        simp only [Act.put, List.setIfInBounds_toArray, List.set_cons_zero, List.set_cons_succ]
        refine readyT [6] ?_
        refine consT (fun K hK => ?_) AllReadyH.nil
        go_simp
        go_wp2_with (go_at_call 20; refine (KS.out _ [] T0).mono ?_; rintro e w1 ⟨rfl, T1⟩)
        clear hH
        refine hK.out _ _ (KbaseA.out _ [] T1) (fun hH => ?_)
        clear hK K
        refine takeT 8 hH (hy := .inl ⟨by rfl, by (intro w hSw; try obtain ⟨u0, u1, u2, u3, u4, u5, u6, u7⟩ := hSw); (go_simp; try rfl)⟩) (h := ?_)
        simp only [Act.put, List.setIfInBounds_toArray, List.set_cons_zero, List.set_cons_succ]
        refine takeT 9 hH (hy := .inl ⟨by rfl, by (intro w hSw; try obtain ⟨u0, u1, u2, u3, u4, u5, u6, u7⟩ := hSw); (go_simp; try rfl)⟩) (h := ?_)
        simp only [Act.put, List.setIfInBounds_toArray, List.set_cons_zero, List.set_cons_succ]
        refine takeT 10 hH (hy := .inl ⟨by rfl, by (intro w hSw; try obtain ⟨u0, u1, u2, u3, u4, u5, u6, u7⟩ := hSw); (go_simp; try rfl)⟩) (h := ?_)
        simp only [Act.put, List.setIfInBounds_toArray, List.set_cons_zero, List.set_cons_succ]
        refine takeT 11 hH (hy := .inl ⟨by rfl, by (intro w hSw; try obtain ⟨u0, u1, u2, u3, u4, u5, u6, u7⟩ := hSw); (go_simp; try rfl)⟩) (h := ?_)
        simp only [Act.put, List.setIfInBounds_toArray, List.set_cons_zero, List.set_cons_succ]
        refine takeT 12 hH (hy := .inl ⟨by rfl, by (intro w hSw; try obtain ⟨u0, u1, u2, u3, u4, u5, u6, u7⟩ := hSw); (go_simp; try rfl)⟩) (h := ?_)
        simp only [Act.put, List.setIfInBounds_toArray, List.set_cons_zero, List.set_cons_succ]
        refine takeT 13 hH (hy := .inl ⟨by rfl, by (intro w hSw; try obtain ⟨u0, u1, u2, u3, u4, u5, u6, u7⟩ := hSw); (go_simp; try rfl)⟩) (h := ?_)
        simp only [Act.put, List.setIfInBounds_toArray, List.set_cons_zero, List.set_cons_succ]
        refine takeT 15 hH (hy := .inl ⟨by rfl, by (intro w hSw; try obtain ⟨u0, u1, u2, u3, u4, u5, u6, u7⟩ := hSw); (go_simp; try rfl)⟩) (h := ?_)
        simp only [Act.put, List.setIfInBounds_toArray, List.set_cons_zero, List.set_cons_succ]
        refine readyT [14] ?_
        refine consT (fun K hK => ?_) AllReadyH.nil
        go_simp
        go_wp2_with (go_at_call 37; refine (KD.out _ [] T1).mono ?_; rintro e w2 ⟨rfl, T2⟩)
        clear hH
        refine hK.out _ _ (KbaseA.out _ [] T2) (fun hH => ?_)
        clear hK K
        refine takeT 16 hH (hy := .inl ⟨by rfl, by (intro w hSw; try obtain ⟨u0, u1, u2, u3, u4, u5, u6, u7⟩ := hSw); (go_simp; try rfl)⟩) (h := ?_)
        simp only [Act.put, List.setIfInBounds_toArray, List.set_cons_zero, List.set_cons_succ]
        refine takeT 17 hH (hy := .inl ⟨by rfl, by (intro w hSw; try obtain ⟨u0, u1, u2, u3, u4, u5, u6, u7⟩ := hSw); (go_simp; try rfl)⟩) (h := ?_)
        simp only [Act.put, List.setIfInBounds_toArray, List.set_cons_zero, List.set_cons_succ]
        refine takeT 18 hH (hy := .inl ⟨by rfl, by (intro w hSw; try obtain ⟨u0, u1, u2, u3, u4, u5, u6, u7⟩ := hSw); (go_simp; try rfl)⟩) (h := ?_)
        simp only [Act.put, List.setIfInBounds_toArray, List.set_cons_zero, List.set_cons_succ]
        refine takeT 19 hH (hy := .inl ⟨by rfl, by (intro w hSw; try obtain ⟨u0, u1, u2, u3, u4, u5, u6, u7⟩ := hSw); (go_simp; try rfl)⟩) (h := ?_)
        simp only [Act.put, List.setIfInBounds_toArray, List.set_cons_zero, List.set_cons_succ]
        refine takeT 20 hH (hy := .inl ⟨by rfl, by (intro w hSw; try obtain ⟨u0, u1, u2, u3, u4, u5, u6, u7⟩ := hSw); (go_simp; try rfl)⟩) (h := ?_)
        simp only [Act.put, List.setIfInBounds_toArray, List.set_cons_zero, List.set_cons_succ]
        refine readyT [21] ?_
        refine consT (fun K hK => ?_) AllReadyH.nil
        go_simp
        go_wp2_with (go_at_call 15; refine (KO.out _ [] T2).mono ?_; rintro e w3 ⟨va3, vc3, rfl, T3⟩)
        clear hH
        refine hK.out _ _ (KbaseA.out _ [] T3) (fun hH => ?_)
        clear hK K
        refine takeT 22 hH (hy := .inl ⟨by rfl, by (intro w hSw; try obtain ⟨u0, u1, u2, u3, u4, u5, u6, u7⟩ := hSw); (go_simp; try rfl)⟩) (h := ?_)
        simp only [Act.put, List.setIfInBounds_toArray, List.set_cons_zero, List.set_cons_succ]
        refine takeT 23 hH (hy := .inl ⟨by rfl, by (intro w hSw; try obtain ⟨u0, u1, u2, u3, u4, u5, u6, u7⟩ := hSw); (go_simp; try rfl)⟩) (h := ?_)
        simp only [Act.put, List.setIfInBounds_toArray, List.set_cons_zero, List.set_cons_succ]
        refine takeT 24 hH (hy := .inl ⟨by rfl, by (intro w hSw; try obtain ⟨u0, u1, u2, u3, u4, u5, u6, u7⟩ := hSw); (go_simp; try rfl)⟩) (h := ?_)
        simp only [Act.put, List.setIfInBounds_toArray, List.set_cons_zero, List.set_cons_succ]
        refine takeT 25 hH (hy := .inl ⟨by rfl, by (intro w hSw; try obtain ⟨u0, u1, u2, u3, u4, u5, u6, u7⟩ := hSw); (go_simp; try rfl)⟩) (h := ?_)
        simp only [Act.put, List.setIfInBounds_toArray, List.set_cons_zero, List.set_cons_succ]
        refine takeT 26 hH (hy := .inl ⟨by rfl, by (intro w hSw; try obtain ⟨u0, u1, u2, u3, u4, u5, u6, u7⟩ := hSw); (go_simp; try rfl)⟩) (h := ?_)
        simp only [Act.put, List.setIfInBounds_toArray, List.set_cons_zero, List.set_cons_succ]
        refine takeT 27 hH (hy := .inl ⟨by rfl, by (intro w hSw; try obtain ⟨u0, u1, u2, u3, u4, u5, u6, u7⟩ := hSw); (go_simp; try rfl)⟩) (h := ?_)
        simp only [Act.put, List.setIfInBounds_toArray, List.set_cons_zero, List.set_cons_succ]
        refine takeT 28 hH (hy := .inl ⟨by rfl, by (intro w hSw; try obtain ⟨u0, u1, u2, u3, u4, u5, u6, u7⟩ := hSw); (go_simp; try rfl)⟩) (h := ?_)
        simp only [Act.put, List.setIfInBounds_toArray, List.set_cons_zero, List.set_cons_succ]
        refine readyT [29] ?_
        refine consT (fun K hK => ?_) AllReadyH.nil
        go_simp
        go_wp2_with (go_at_call 14; refine (KU.out _ [] T3).mono ?_; rintro e w4 ⟨rfl, T4⟩)
        clear hH
        refine hK.out _ _ (KbaseA.out _ [] T4) (fun hH => ?_)
        clear hK K
        refine takeT 30 hH (hy := .inl ⟨by rfl, by (intro w hSw; try obtain ⟨u0, u1, u2, u3, u4, u5, u6, u7⟩ := hSw); (go_simp; try rfl)⟩) (h := ?_)
        simp only [Act.put, List.setIfInBounds_toArray, List.set_cons_zero, List.set_cons_succ]
        refine takeT 31 hH (hy := .inl ⟨by rfl, by (intro w hSw; try obtain ⟨u0, u1, u2, u3, u4, u5, u6, u7⟩ := hSw); (go_simp; try rfl)⟩) (h := ?_)
        simp only [Act.put, List.setIfInBounds_toArray, List.set_cons_zero, List.set_cons_succ]
        refine takeT 32 hH (hy := .inl ⟨by rfl, by (intro w hSw; try obtain ⟨u0, u1, u2, u3, u4, u5, u6, u7⟩ := hSw); (go_simp; try rfl)⟩) (h := ?_)
        simp only [Act.put, List.setIfInBounds_toArray, List.set_cons_zero, List.set_cons_succ]
        refine takeT 33 hH (hy := .inl ⟨by rfl, by (intro w hSw; try obtain ⟨u0, u1, u2, u3, u4, u5, u6, u7⟩ := hSw); (go_simp; try rfl)⟩) (h := ?_)
        simp only [Act.put, List.setIfInBounds_toArray, List.set_cons_zero, List.set_cons_succ]
        refine takeT 35 hH (hy := .inl ⟨by rfl, by (intro w hSw; try obtain ⟨u0, u1, u2, u3, u4, u5, u6, u7⟩ := hSw); (go_simp; try rfl)⟩) (h := ?_)
        simp only [Act.put, List.setIfInBounds_toArray, List.set_cons_zero, List.set_cons_succ]
        refine readyT [34] ?_
        refine consT (fun K hK => ?_) AllReadyH.nil
        go_simp
        go_wp2_with (go_at_call 38; refine (KL.out _ [] T4).mono ?_; rintro e w5 ⟨rfl, T5⟩)
        clear hH
        refine hK.out _ _ (KbaseA.out _ [] T5) (fun hH => ?_)
        clear hK K
        refine takeT 36 hH (hy := .inl ⟨by rfl, by (intro w hSw; try obtain ⟨u0, u1, u2, u3, u4, u5, u6, u7⟩ := hSw); (go_simp; try rfl)⟩) (h := ?_)
        simp only [Act.put, List.setIfInBounds_toArray, List.set_cons_zero, List.set_cons_succ]
        refine takeT 37 hH (hy := .inl ⟨by rfl, by (intro w hSw; try obtain ⟨u0, u1, u2, u3, u4, u5, u6, u7⟩ := hSw); (go_simp; try rfl)⟩) (h := ?_)
        simp only [Act.put, List.setIfInBounds_toArray, List.set_cons_zero, List.set_cons_succ]
        refine takeT 38 hH (hy := .inl ⟨by rfl, by (intro w hSw; try obtain ⟨u0, u1, u2, u3, u4, u5, u6, u7⟩ := hSw); (go_simp; try rfl)⟩) (h := ?_)
        simp only [Act.put, List.setIfInBounds_toArray, List.set_cons_zero, List.set_cons_succ]
        refine wpAnyH_done (by kernel_rfl) ?_ _
        as_aux_lemma =>
          go_wp2_with fail
          go_meet
          exact ⟨rfl, T5.below⟩
    case rest =>
      obtain ⟨rfl, hB⟩ := hcut
      replace hB := Lib.hid hB
      go_wp2
      go_ret
      exact ⟨rfl, hB.out⟩
set_option maxRecDepth 100000 in
theorem lifted (os : Os) (started : os.Started) (H : Type) (enc : TypeId × Value → H) :
    ReturnsInHanded {} Try.checked os 9 .any (Rows.objectClosedSpec.pre6 enc Try.prog Try.f9 Rows.objectClosedRow.domain false) (Rows.objectClosedSpec.post enc Try.prog Try.f9 false true false false) := by
  refine law_lift (C := Try.checked) own started (by kernel_rfl) Try.func9
    (ChangeSpec.witness6 (enc := enc) (C := Try.checked) false ⟨#[], #[.agg #[.slice none 0 0, .slice none 0 0], .agg #[.int .i64 0, .int .i64 0, .string ⟨#[]⟩], .string ⟨#[]⟩], []⟩ 8 (by kernel_rfl) (by kernel_rfl) (by kernel_rfl) (by kernel_rfl))
    (by kernel_rfl) (by kernel_rfl) rfl (fun ds h => by
      match ds, h with
      | [d1, d2, d3], _ => exact ⟨rfl, rfl, rfl⟩) rfl Try.underlying4 ?_
  intro W base args ds ps hval hA hlt hwt hsh
  rw [Try.params9] at hA hval
  obtain ⟨v0, vs0, d0, ds0, p0, q0, hargs, rfl, rfl, h0, r0⟩ := trodAll_cons hA
  obtain ⟨v1, vs1, d1, ds1, p1, q1, rfl, rfl, rfl, h1, r1⟩ := trodAll_cons r0
  obtain ⟨v2, vs2, d2, ds2, p2, q2, rfl, rfl, rfl, h2, r2⟩ := trodAll_cons r1
  obtain ⟨rfl, rfl, rfl⟩ := trodAll_nil r2
  obtain rfl : args = #[v0, v1, v2] := by cases args; simp_all
  obtain ⟨cs0, rfl, hsz0⟩ := okWide_struct Try.underlying25 (hval 0 25 v0 rfl rfl)
  obtain ⟨fuel0, hf0⟩ := h0
  obtain ⟨sB0, sH0, e0, sI0⟩ := open_some (cs := cs0.toList) hf0
  obtain rfl : cs0 = [sB0, sH0].toArray := by rw [← e0]
  obtain ⟨cs1, rfl, hsz1⟩ := okWide_struct Try.underlying33 (hval 1 33 v1 rfl rfl)
  obtain ⟨fuel1, hf1⟩ := h1
  obtain ⟨x1, e1⟩ := val_of_trod (cs := cs1.toList) hf1
  obtain rfl : cs1 = x1.cells.toArray := by rw [← e1]
  obtain ⟨a2, rfl, rfl, rfl, w2⟩ := open_string Try.underlying9 (hval 2 9 v2 rfl rfl) h2
  -- WALK
  exact walk W _ _ sI0 x1 a2 w2
theorem proved : Rows.ObjectClosedSaid :=
  OpenClaim.holds_of_wide 9 Try.f9 rfl rfl rfl rfl rfl rfl rfl ⟨rfl, rfl, rfl, rfl, rfl⟩ rfl rfl rfl rfl rfl (by kernel_rfl) Try.func9 (by kernel_rfl)
    (of_decide_eq_true (by kernel_rfl)) (by unfold Func.isWrapper; first | (rw [if_pos (by decide +kernel)]; kernel_rfl) | (rw [if_neg (by decide +kernel)]; exact ⟨rfl, rfl⟩))
    (fun os started H enc _ => lifted os started H enc)
#print axioms proved
end Go.Proofs.Ytkocenlglodklaa.objectClosed
