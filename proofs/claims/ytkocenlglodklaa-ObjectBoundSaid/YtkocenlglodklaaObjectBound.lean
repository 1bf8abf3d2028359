/-
  ObjectBound: for any classes, any one of them, and whichever class of its order has the function, the law returns true: a function that a class has is bound to the instance that asks, a new object each time; asked of the class, or held by the instance itself, it is the function. No condition.
-/
import Derived.Test.YtkocenlglodklaaShowC
import Derived.Test.YtkocenlglodklaaBoundM
import Derived.Test.YtkocenlglodklaaLocal
import Derived.Test.YtkocenlglodklaaIn14
namespace Go.Proofs.Ytkocenlglodklaa.objectBound
set_option linter.unusedSimpArgs false
open Go.ChangeShapes Go.WideShapes Go.ChangeAt Go.RowKit
open Go.ChangeMaps (open_string)
set_option linter.unusedVariables false
section
variable {w W : World} {Rs : List Res} {h : Nat} {H : HeapM}
theorem kb_ord (S : Sep w Rs W) (i : Nat) (hi : Rs[i]? = some (heapR h H)) {N : Nat} (G : H.Good N) (hN : N ≤ 4000000) (v : V) (L : List V) (hL : H.order v = L) :
    Calls Try.prog 15 #[.pointer (some ⟨h, 0, none⟩), .agg #[.int .i64 v.kind, .int .i64 v.n, .string v.s]] W fun e W' => ∃ a c, e = .returned (.slice a L.length c) ∧ Sep w (valsR (.slice a L.length c) L :: Rs) W' := by
  refine (order_list S i hi G hN v).mono fun e W' ⟨sv, h1, h2⟩ => ?_
  rw [hL] at h2
  obtain ⟨a, c, hsv⟩ := (h2.row 0 rfl).form
  rw [hsv] at h1 h2
  exact ⟨a, c, h1, h2⟩
theorem kb_items (S : Sep w Rs W) (i : Nat) (hi : Rs[i]? = some (heapR h H)) {N : Nat} (G : H.Good N) (hN : N ≤ 4000000) (v : V) (L : List V) (hL : H.items v = L) :
    Calls Try.prog 26 #[.pointer (some ⟨h, 0, none⟩), .agg #[.int .i64 v.kind, .int .i64 v.n, .string v.s]] W fun e W' => ∃ a c, e = .returned (.slice a L.length c) ∧ Sep w (valsR (.slice a L.length c) L :: Rs) W' := by
  refine (S.items i hi G hN v).mono fun e W' ⟨sv, h1, h2, _⟩ => ?_
  rw [hL] at h2
  obtain ⟨a, c, hsv⟩ := (h2.row 0 rfl).form
  rw [hsv] at h1 h2
  exact ⟨a, c, h1, h2⟩
theorem kb_make (S : Sep w Rs W) (i : Nat) (hi : Rs[i]? = some (heapR h H)) {N : Nat} (G : H.Good N) (hN : N + 1 ≤ 4000000) (f : V) (hf : f.val = .agg #[.int .i64 4, .int .i64 (H.last + 1), .string ⟨#[]⟩]) :
    Calls Try.prog 19 #[.pointer (some ⟨h, 0, none⟩), .int .i64 4, .string ⟨#[103, 111]⟩, .int .i64 5, .slice none 0 0] W fun e W' => e = .returned (.agg #[.int .i64 f.kind, .int .i64 f.n, .string f.s]) ∧ Sep w (Rs.set i (heapR h (fun1 H))) W' := by
  have := S.make i hi G hN funO (.slice none 0 0) (seesV_nil W) (by simp [funO]) rfl (by simp [funO]) (by simp [funO])
  refine this.mono fun e W' ⟨e1, e2⟩ => ⟨?_, e2⟩
  rw [e1]
  show Ending.returned (.agg #[.int .i64 4, .int .i64 (H.last + 1), .string ⟨#[]⟩]) = .returned f.val
  rw [hf]
theorem kb_set (S : Sep w Rs W) (i : Nat) (hi : Rs[i]? = some (heapR h H)) (v x : V) (hp : H.opens v = true ∧ H.canPut v goK = true) (H' : HeapM) (e : H' = H.put v goK x) :
    Calls Try.prog 20 #[.pointer (some ⟨h, 0, none⟩), .agg #[.int .i64 v.kind, .int .i64 v.n, .string v.s], .string ⟨#[103, 111]⟩, .agg #[.int .i64 x.kind, .int .i64 x.n, .string x.s]] W fun e W' => e = .returned excZ ∧ Sep w (Rs.set i (heapR h H')) W' := by
  subst e
  have := set_ok S i hi v x goS goS_le hp.1
  have hp2 : H.canPut v (keyS goS goS_le) = true := hp.2
  rw [hp2] at this
  exact this
theorem kb_inst (S : Sep w Rs W) (i : Nat) (hi : Rs[i]? = some (heapR h H)) {N : Nat} (F : H.Fit N) (hN : N + 1 ≤ 4000000) (v : V) (hc : H.isClass v = true) (H' : HeapM) (e : H' = H.add (instO (H.name v) (HeapM.name_le H v) v)) (o : V) (ho : o.val = .agg #[.int .i64 4, .int .i64 (H.last + 1), .string ⟨#[]⟩]) :
    Calls Try.prog 18 #[.pointer (some ⟨h, 0, none⟩), .agg #[.int .i64 v.kind, .int .i64 v.n, .string v.s]] W fun e W' => e = .returned (.tuple #[.agg #[.int .i64 o.kind, .int .i64 o.n, .string o.s], .bool true]) ∧ Sep w (Rs.set i (heapR h H')) W' := by
  subst e
  refine (instance_ok S i hi F hN v (HeapM.name_le H v) hc).mono fun e W' ⟨e1, e2⟩ => ⟨?_, e2⟩
  rw [e1, ← ho]; rfl
theorem kb_get (S : Sep w Rs W) (i : Nat) (hi : Rs[i]? = some (heapR h H)) {N : Nat} (F : H.Fit N) (hN : N + 1 ≤ 4000000) (v a : V) (H' : HeapM) (hg : H.getA v goK = some (a.val, H')) :
    Calls Try.prog 21 #[.pointer (some ⟨h, 0, none⟩), .agg #[.int .i64 v.kind, .int .i64 v.n, .string v.s], .string ⟨#[103, 111]⟩] W fun e W' => e = .returned (.tuple #[.agg #[.int .i64 a.kind, .int .i64 a.n, .string a.s], excZ]) ∧ Sep w (Rs.set i (heapR h H')) W' := by
  have := get_ok S i hi F hN v goS goS_le
  have hg2 : H.getA v (keyS goS goS_le) = some (a.val, H') := hg
  rw [hg2] at this
  exact this
theorem kb_spec (S : Sep w Rs W) (i : Nat) (hi : Rs[i]? = some (heapR h H)) {N : Nat} (F : H.Fit N) (hN : N + 1 ≤ 4000000) (v a : V) (H' : HeapM) (hg : H.specM v goK = (a.val, true, H')) :
    Calls Try.prog 22 #[.pointer (some ⟨h, 0, none⟩), .agg #[.int .i64 v.kind, .int .i64 v.n, .string v.s], .string ⟨#[103, 111]⟩] W fun e W' => e = .returned (.tuple #[.agg #[.int .i64 a.kind, .int .i64 a.n, .string a.s], .bool true]) ∧ Sep w (Rs.set i (heapR h H')) W' := by
  have := special_ok S i hi F hN v goS goS_le
  have hg2 : H.specM v (keyS goS goS_le) = (a.val, true, H') := hg
  rw [hg2] at this
  exact this
theorem kb_kind (S : Sep w Rs W) (i : Nat) (hi : Rs[i]? = some (heapR h H)) (v : V) (k : Int) (hk : H.kind v = k) :
    Calls Try.prog 23 #[.pointer (some ⟨h, 0, none⟩), .agg #[.int .i64 v.kind, .int .i64 v.n, .string v.s]] W fun e W' => e = .returned (.int .i64 k) ∧ Sep w Rs W' :=
  (S.kind i hi v).mono fun e W' ⟨e1, e2, _⟩ => ⟨by rw [e1, hk], e2⟩
theorem kb_name (S : Sep w Rs W) (i : Nat) (hi : Rs[i]? = some (heapR h H)) (v : V) (hk : H.name v = goS) :
    Calls Try.prog 24 #[.pointer (some ⟨h, 0, none⟩), .agg #[.int .i64 v.kind, .int .i64 v.n, .string v.s]] W fun e W' => e = .returned (.string ⟨#[103, 111]⟩) ∧ Sep w Rs W' :=
  (S.name i hi v).mono fun e W' ⟨e1, e2, _⟩ => ⟨by rw [e1, hk]; rfl, e2⟩
end
set_option maxRecDepth 100000 in
set_option maxHeartbeats 12800000 in
theorem walk (w : World) (sB sH : Value) (B : SomeIn w sB sH) (wh at_ : Int) :
    Calls Try.prog 4 #[.agg #[sB, sH], .int .i64 wh, .int .i64 at_] w fun e W' => e = .returned (.bool true) ∧ Below w.heap.size w W' := by
  obtain ⟨b, hb⟩ : ∃ gx_, (w.heap.size) = gx_ := ⟨_, rfl⟩
  have S := (Sep.start (Below.refl w.heap.size w)).alloc (.cells #[sB, sH] 25)
  rw [hb] at S
  replace S : Sep w (boxR b (.cells #[sB, sH] 25) :: []) _ := S
  have M0 := Lib.hid ((shown_ok (w.alloc (.cells #[sB, sH] 25))).mono fun e W1 (hh : _ ∧ _) => (⟨hh.1, S.later hh.2⟩ : _ ∧ Sep w (boxR b (.cells #[sB, sH] 25) :: []) W1))
  clear S
  go_enter Try.func4, Try.ntmps4
  go_wp2_with fail
  try simp only [hb]
  refine M0.out.mono ?_
  rintro e w1 ⟨rfl, S⟩
  clear M0 hb
  have d0 := cellAt (S.box (b := b) 0 rfl) 0 (v := sB) rfl
  have d1 := cellAt (S.box (b := b) 0 rfl) 1 (v := sH) rfl
  have MM := Lib.hid (B.madeK S)
  clear S
  go_wp2_with fail
  refine MM.out.mono ?_
  rintro e w2 ⟨h, oa, oc, H, out, rfl, M, MK, S⟩
  clear MM B d0 d1
  replace S : Sep w (valsR (.slice oa out.length oc) out :: heapR h H :: boxR b (.cells #[sB, sH] 25) :: []) _ := S
  by_cases hl : out = []
  · have hl0 : out.length = 0 := by rw [hl]; rfl
    replace S := Lib.hid S.below
    rw [hl0]
    clear M MK hl hl0
    go_wp2
    go_ret
    exact ⟨rfl, S.out⟩
  have hl1 : ¬ out.length = 0 := fun e => hl (List.length_eq_zero_iff.1 e)
  have hl2 : ((out.length : Int) == 0) = false := by simp; exact hl
  have hmem := M.mem _ (pickV_mem hl wh)
  have C := pick_ok w2 _ out wh (S.row 0 rfl).sees'
  obtain ⟨c, hc⟩ : ∃ gx_, (pickV out wh) = gx_ := ⟨_, rfl⟩
  rw [hc] at hmem C
  have hK : H.NoGo := fun x _ => NoKey.get (MK goK (fun k e => by
    have h2 : nameK k = goS := congrArg V.s e
    match k with
    | 0 => exact absurd h2 (by decide)
    | 1 => exact absurd h2 (by decide)
    | 2 => exact absurd h2 (by decide)
    | n + 3 => exact absurd h2 (by show ¬ ((⟨#[]⟩ : ByteArray) = goS); decide))) x
  have hLne : H.order c ≠ [] := by rw [M.cls.order hmem.1]; simp
  obtain ⟨L, hLL⟩ : ∃ gx_, (H.order c) = gx_ := ⟨_, rfl⟩
  rw [hLL] at hLne
  have haL := pickV_mem hLne at_
  obtain ⟨a, ha⟩ : ∃ gx_, (pickV L at_) = gx_ := ⟨_, rfl⟩
  have HA := Lib.hid ha
  rw [ha] at haL
  obtain ⟨X2, X3, X4, X5, X6, X7, f, o, m, n, s, BA⟩ := bound_facts M hK hmem.1 hmem.2 (a := a) (by rw [hLL]; exact haL)
  have HB := Lib.hid BA
  have MM := Lib.hid (And.intro M hmem)
  have HL := Lib.hid hLL
  have M1 := Lib.hid (C.mono fun e W1 (hh : _ ∧ _) => (⟨hh.1, S.later hh.2⟩ : _ ∧ Sep w (valsR (.slice oa out.length oc) out :: heapR h H :: boxR b (.cells #[sB, sH] 25) :: []) W1))
  simp only [V.val] at M1
  clear S C hc hmem M MK hl hK hLne hLL haL ha BA
  go_wp2_with fail
  refine M1.out.mono ?_
  rintro e w3 ⟨rfl, S⟩
  clear M1 hl1 hl2
  obtain ⟨x10, hx10⟩ : ∃ gx_, (w3.heap.size) = gx_ := ⟨_, rfl⟩
  replace S := (S.alloc (.cells #[.int .i64 c.kind, .int .i64 c.n, .string c.s] 33))
  simp only [World.size_alloc, hx10] at S
  replace S : Sep w (boxR x10 (.cells #[.int .i64 c.kind, .int .i64 c.n, .string c.s] 33) :: valsR (.slice oa out.length oc) out :: heapR h H :: boxR b (.cells #[sB, sH] 25) :: []) _ := S
  have d0 := cellAt (S.box (b := x10) 0 rfl) 0 (v := .int .i64 c.kind) rfl
  have d1 := cellAt (S.box (b := x10) 0 rfl) 1 (v := .int .i64 c.n) rfl
  have d2 := cellAt (S.box (b := x10) 0 rfl) 2 (v := .string c.s) rfl
  have M := Lib.hid (kb_ord S 2 rfl MM.out.1.fit.G (by omega) c L HL.out)
  clear S
  go_wp2_with fail
  try simp only [hx10]
  refine M.out.mono ?_
  rintro e w4 ⟨la, lc, rfl, S⟩
  clear M d0 d1 d2 hx10
  replace S : Sep w (valsR (.slice la L.length lc) L :: boxR x10 (.cells #[.int .i64 c.kind, .int .i64 c.n, .string c.s] 33) :: valsR (.slice oa out.length oc) out :: heapR h H :: boxR b (.cells #[sB, sH] 25) :: []) _ := S
  have M := Lib.hid (kb_make S 3 rfl MM.out.1.fit.G (by omega) f HB.out.nf)
  clear S
  go_wp2_with fail
  refine M.out.mono ?_
  rintro e w5 ⟨rfl, S⟩
  clear M
  replace S : Sep w (valsR (.slice la L.length lc) L :: boxR x10 (.cells #[.int .i64 c.kind, .int .i64 c.n, .string c.s] 33) :: valsR (.slice oa out.length oc) out :: heapR h (fun1 H) :: boxR b (.cells #[sB, sH] 25) :: []) _ := S
  obtain ⟨x12, hx12⟩ : ∃ gx_, (w5.heap.size) = gx_ := ⟨_, rfl⟩
  replace S := (S.alloc (.cells #[.int .i64 f.kind, .int .i64 f.n, .string f.s] 33))
  simp only [World.size_alloc, hx12] at S
  replace S : Sep w (boxR x12 (.cells #[.int .i64 f.kind, .int .i64 f.n, .string f.s] 33) :: valsR (.slice la L.length lc) L :: boxR x10 (.cells #[.int .i64 c.kind, .int .i64 c.n, .string c.s] 33) :: valsR (.slice oa out.length oc) out :: heapR h (fun1 H) :: boxR b (.cells #[sB, sH] 25) :: []) _ := S
  have C := pick_ok ((w5.alloc (.cells #[.int .i64 f.kind, .int .i64 f.n, .string f.s] 33))) _ L at_ (S.row 1 rfl).sees'
  rw [HA.out] at C
  have M1 := (C.mono fun e W1 (hh : _ ∧ _) => (⟨hh.1, S.later hh.2⟩ : _ ∧ Sep w (boxR x12 (.cells #[.int .i64 f.kind, .int .i64 f.n, .string f.s] 33) :: valsR (.slice la L.length lc) L :: boxR x10 (.cells #[.int .i64 c.kind, .int .i64 c.n, .string c.s] 33) :: valsR (.slice oa out.length oc) out :: heapR h (fun1 H) :: boxR b (.cells #[sB, sH] 25) :: []) W1))
  simp only [V.val] at M1
  clear C
  have M := Lib.hid (M1)
  clear S
  go_wp2_with fail
  try simp only [hx12]
  refine M.out.mono ?_
  rintro e w6 ⟨rfl, S⟩
  clear M hx12
  replace S : Sep w (boxR x12 (.cells #[.int .i64 f.kind, .int .i64 f.n, .string f.s] 33) :: valsR (.slice la L.length lc) L :: boxR x10 (.cells #[.int .i64 c.kind, .int .i64 c.n, .string c.s] 33) :: valsR (.slice oa out.length oc) out :: heapR h (fun1 H) :: boxR b (.cells #[sB, sH] 25) :: []) _ := S
  obtain ⟨x13, hx13⟩ : ∃ gx_, (w6.heap.size) = gx_ := ⟨_, rfl⟩
  replace S := (S.alloc (.cells #[.int .i64 a.kind, .int .i64 a.n, .string a.s] 33))
  simp only [World.size_alloc, hx13] at S
  replace S : Sep w (boxR x13 (.cells #[.int .i64 a.kind, .int .i64 a.n, .string a.s] 33) :: boxR x12 (.cells #[.int .i64 f.kind, .int .i64 f.n, .string f.s] 33) :: valsR (.slice la L.length lc) L :: boxR x10 (.cells #[.int .i64 c.kind, .int .i64 c.n, .string c.s] 33) :: valsR (.slice oa out.length oc) out :: heapR h (fun1 H) :: boxR b (.cells #[sB, sH] 25) :: []) _ := S
  have d0 := cellAt (S.box (b := x13) 0 rfl) 0 (v := .int .i64 a.kind) rfl
  have d1 := cellAt (S.box (b := x13) 0 rfl) 1 (v := .int .i64 a.n) rfl
  have d2 := cellAt (S.box (b := x13) 0 rfl) 2 (v := .string a.s) rfl
  have d3 := cellAt (S.box (b := x12) 1 rfl) 0 (v := .int .i64 f.kind) rfl
  have d4 := cellAt (S.box (b := x12) 1 rfl) 1 (v := .int .i64 f.n) rfl
  have d5 := cellAt (S.box (b := x12) 1 rfl) 2 (v := .string f.s) rfl
  have M := Lib.hid (kb_set S 5 rfl a f HB.out.p1 X2 HB.out.e2)
  clear S
  go_wp2_with fail
  try simp only [hx13]
  refine M.out.mono ?_
  rintro e w7 ⟨rfl, S⟩
  clear M d0 d1 d2 d3 d4 d5 hx13
  replace S : Sep w (boxR x13 (.cells #[.int .i64 a.kind, .int .i64 a.n, .string a.s] 33) :: boxR x12 (.cells #[.int .i64 f.kind, .int .i64 f.n, .string f.s] 33) :: valsR (.slice la L.length lc) L :: boxR x10 (.cells #[.int .i64 c.kind, .int .i64 c.n, .string c.s] 33) :: valsR (.slice oa out.length oc) out :: heapR h X2 :: boxR b (.cells #[sB, sH] 25) :: []) _ := S
  have EZ : ∀ W, (binOp .neq 45 excZ excZ).run Try.prog W = .ok (.bool false) W := fun W => by go_simp
  have d0 := cellAt (S.box (b := x10) 3 rfl) 0 (v := .int .i64 c.kind) rfl
  have d1 := cellAt (S.box (b := x10) 3 rfl) 1 (v := .int .i64 c.n) rfl
  have d2 := cellAt (S.box (b := x10) 3 rfl) 2 (v := .string c.s) rfl
  have M := Lib.hid (kb_inst S 5 rfl HB.out.f2 (by omega) c HB.out.c2 X3 HB.out.e3 o HB.out.no)
  clear S
  go_wp2_with fail
  refine M.out.mono ?_
  rintro e w8 ⟨rfl, S⟩
  clear M d0 d1 d2
  replace S : Sep w (boxR x13 (.cells #[.int .i64 a.kind, .int .i64 a.n, .string a.s] 33) :: boxR x12 (.cells #[.int .i64 f.kind, .int .i64 f.n, .string f.s] 33) :: valsR (.slice la L.length lc) L :: boxR x10 (.cells #[.int .i64 c.kind, .int .i64 c.n, .string c.s] 33) :: valsR (.slice oa out.length oc) out :: heapR h X3 :: boxR b (.cells #[sB, sH] 25) :: []) _ := S
  obtain ⟨x14, hx14⟩ : ∃ gx_, (w8.heap.size) = gx_ := ⟨_, rfl⟩
  replace S := (S.alloc (.cells #[.int .i64 o.kind, .int .i64 o.n, .string o.s] 33))
  simp only [World.size_alloc, hx14] at S
  replace S : Sep w (boxR x14 (.cells #[.int .i64 o.kind, .int .i64 o.n, .string o.s] 33) :: boxR x13 (.cells #[.int .i64 a.kind, .int .i64 a.n, .string a.s] 33) :: boxR x12 (.cells #[.int .i64 f.kind, .int .i64 f.n, .string f.s] 33) :: valsR (.slice la L.length lc) L :: boxR x10 (.cells #[.int .i64 c.kind, .int .i64 c.n, .string c.s] 33) :: valsR (.slice oa out.length oc) out :: heapR h X3 :: boxR b (.cells #[sB, sH] 25) :: []) _ := S
  have d0 := cellAt (S.box (b := x14) 0 rfl) 0 (v := .int .i64 o.kind) rfl
  have d1 := cellAt (S.box (b := x14) 0 rfl) 1 (v := .int .i64 o.n) rfl
  have d2 := cellAt (S.box (b := x14) 0 rfl) 2 (v := .string o.s) rfl
  have M := Lib.hid (kb_get S 6 rfl HB.out.f3 (by omega) o m X4 HB.out.g3)
  clear S
  go_wp2_with fail
  try simp only [hx14]
  refine M.out.mono ?_
  rintro e w9 ⟨rfl, S⟩
  clear M d0 d1 d2 hx14
  replace S : Sep w (boxR x14 (.cells #[.int .i64 o.kind, .int .i64 o.n, .string o.s] 33) :: boxR x13 (.cells #[.int .i64 a.kind, .int .i64 a.n, .string a.s] 33) :: boxR x12 (.cells #[.int .i64 f.kind, .int .i64 f.n, .string f.s] 33) :: valsR (.slice la L.length lc) L :: boxR x10 (.cells #[.int .i64 c.kind, .int .i64 c.n, .string c.s] 33) :: valsR (.slice oa out.length oc) out :: heapR h X4 :: boxR b (.cells #[sB, sH] 25) :: []) _ := S
  obtain ⟨x16, hx16⟩ : ∃ gx_, (w9.heap.size) = gx_ := ⟨_, rfl⟩
  replace S := ((S.alloc (.cells #[.int .i64 m.kind, .int .i64 m.n, .string m.s] 33)).alloc (.cells #[.string ⟨#[]⟩, .int .i64 0, .int .i64 0, .string ⟨#[]⟩, .bool false] 45))
  simp only [World.size_alloc, hx16] at S
  replace S : Sep w (boxR (x16 + 1) (.cells #[.string ⟨#[]⟩, .int .i64 0, .int .i64 0, .string ⟨#[]⟩, .bool false] 45) :: boxR x16 (.cells #[.int .i64 m.kind, .int .i64 m.n, .string m.s] 33) :: boxR x14 (.cells #[.int .i64 o.kind, .int .i64 o.n, .string o.s] 33) :: boxR x13 (.cells #[.int .i64 a.kind, .int .i64 a.n, .string a.s] 33) :: boxR x12 (.cells #[.int .i64 f.kind, .int .i64 f.n, .string f.s] 33) :: valsR (.slice la L.length lc) L :: boxR x10 (.cells #[.int .i64 c.kind, .int .i64 c.n, .string c.s] 33) :: valsR (.slice oa out.length oc) out :: heapR h X4 :: boxR b (.cells #[sB, sH] 25) :: []) _ := S
  have d0 := cellAt (S.box (b := x14) 2 rfl) 0 (v := .int .i64 o.kind) rfl
  have d1 := cellAt (S.box (b := x14) 2 rfl) 1 (v := .int .i64 o.n) rfl
  have d2 := cellAt (S.box (b := x14) 2 rfl) 2 (v := .string o.s) rfl
  have M := Lib.hid (kb_spec S 8 rfl HB.out.f4 (by omega) o n X5 HB.out.g4)
  clear S
  go_wp2_with fail
  try simp only [hx16]
  refine M.out.mono ?_
  rintro e w10 ⟨rfl, S⟩
  clear M d0 d1 d2 hx16
  replace S : Sep w (boxR (x16 + 1) (.cells #[.string ⟨#[]⟩, .int .i64 0, .int .i64 0, .string ⟨#[]⟩, .bool false] 45) :: boxR x16 (.cells #[.int .i64 m.kind, .int .i64 m.n, .string m.s] 33) :: boxR x14 (.cells #[.int .i64 o.kind, .int .i64 o.n, .string o.s] 33) :: boxR x13 (.cells #[.int .i64 a.kind, .int .i64 a.n, .string a.s] 33) :: boxR x12 (.cells #[.int .i64 f.kind, .int .i64 f.n, .string f.s] 33) :: valsR (.slice la L.length lc) L :: boxR x10 (.cells #[.int .i64 c.kind, .int .i64 c.n, .string c.s] 33) :: valsR (.slice oa out.length oc) out :: heapR h X5 :: boxR b (.cells #[sB, sH] 25) :: []) _ := S
  obtain ⟨x18, hx18⟩ : ∃ gx_, (w10.heap.size) = gx_ := ⟨_, rfl⟩
  replace S := (S.alloc (.cells #[.int .i64 n.kind, .int .i64 n.n, .string n.s] 33))
  simp only [World.size_alloc, hx18] at S
  replace S : Sep w (boxR x18 (.cells #[.int .i64 n.kind, .int .i64 n.n, .string n.s] 33) :: boxR (x16 + 1) (.cells #[.string ⟨#[]⟩, .int .i64 0, .int .i64 0, .string ⟨#[]⟩, .bool false] 45) :: boxR x16 (.cells #[.int .i64 m.kind, .int .i64 m.n, .string m.s] 33) :: boxR x14 (.cells #[.int .i64 o.kind, .int .i64 o.n, .string o.s] 33) :: boxR x13 (.cells #[.int .i64 a.kind, .int .i64 a.n, .string a.s] 33) :: boxR x12 (.cells #[.int .i64 f.kind, .int .i64 f.n, .string f.s] 33) :: valsR (.slice la L.length lc) L :: boxR x10 (.cells #[.int .i64 c.kind, .int .i64 c.n, .string c.s] 33) :: valsR (.slice oa out.length oc) out :: heapR h X5 :: boxR b (.cells #[sB, sH] 25) :: []) _ := S
  have d0 := cellAt (S.box (b := x10) 7 rfl) 0 (v := .int .i64 c.kind) rfl
  have d1 := cellAt (S.box (b := x10) 7 rfl) 1 (v := .int .i64 c.n) rfl
  have d2 := cellAt (S.box (b := x10) 7 rfl) 2 (v := .string c.s) rfl
  have M := Lib.hid (kb_get S 9 rfl HB.out.f5 (by omega) c f X5 HB.out.g5)
  clear S
  go_wp2_with fail
  try simp only [hx18]
  refine M.out.mono ?_
  rintro e w11 ⟨rfl, S⟩
  clear M d0 d1 d2 hx18
  replace S : Sep w (boxR x18 (.cells #[.int .i64 n.kind, .int .i64 n.n, .string n.s] 33) :: boxR (x16 + 1) (.cells #[.string ⟨#[]⟩, .int .i64 0, .int .i64 0, .string ⟨#[]⟩, .bool false] 45) :: boxR x16 (.cells #[.int .i64 m.kind, .int .i64 m.n, .string m.s] 33) :: boxR x14 (.cells #[.int .i64 o.kind, .int .i64 o.n, .string o.s] 33) :: boxR x13 (.cells #[.int .i64 a.kind, .int .i64 a.n, .string a.s] 33) :: boxR x12 (.cells #[.int .i64 f.kind, .int .i64 f.n, .string f.s] 33) :: valsR (.slice la L.length lc) L :: boxR x10 (.cells #[.int .i64 c.kind, .int .i64 c.n, .string c.s] 33) :: valsR (.slice oa out.length oc) out :: heapR h X5 :: boxR b (.cells #[sB, sH] 25) :: []) _ := S
  obtain ⟨x20, hx20⟩ : ∃ gx_, (w11.heap.size) = gx_ := ⟨_, rfl⟩
  replace S := ((S.alloc (.cells #[.int .i64 f.kind, .int .i64 f.n, .string f.s] 33)).alloc (.cells #[.string ⟨#[]⟩, .int .i64 0, .int .i64 0, .string ⟨#[]⟩, .bool false] 45))
  simp only [World.size_alloc, hx20] at S
  replace S : Sep w (boxR (x20 + 1) (.cells #[.string ⟨#[]⟩, .int .i64 0, .int .i64 0, .string ⟨#[]⟩, .bool false] 45) :: boxR x20 (.cells #[.int .i64 f.kind, .int .i64 f.n, .string f.s] 33) :: boxR x18 (.cells #[.int .i64 n.kind, .int .i64 n.n, .string n.s] 33) :: boxR (x16 + 1) (.cells #[.string ⟨#[]⟩, .int .i64 0, .int .i64 0, .string ⟨#[]⟩, .bool false] 45) :: boxR x16 (.cells #[.int .i64 m.kind, .int .i64 m.n, .string m.s] 33) :: boxR x14 (.cells #[.int .i64 o.kind, .int .i64 o.n, .string o.s] 33) :: boxR x13 (.cells #[.int .i64 a.kind, .int .i64 a.n, .string a.s] 33) :: boxR x12 (.cells #[.int .i64 f.kind, .int .i64 f.n, .string f.s] 33) :: valsR (.slice la L.length lc) L :: boxR x10 (.cells #[.int .i64 c.kind, .int .i64 c.n, .string c.s] 33) :: valsR (.slice oa out.length oc) out :: heapR h X5 :: boxR b (.cells #[sB, sH] 25) :: []) _ := S
  have NQ : ∀ W, (binOp .neq 33 (.agg #[.int .i64 f.kind, .int .i64 f.n, .string f.s]) (.agg #[.int .i64 f.kind, .int .i64 f.n, .string f.s])).run Try.prog W = .ok (.bool false) W := fun W => neq_vals W f f false (by simp)
  have EMN : ∀ W, (binOp .eql 33 (.agg #[.int .i64 m.kind, .int .i64 m.n, .string m.s]) (.agg #[.int .i64 n.kind, .int .i64 n.n, .string n.s])).run Try.prog W = .ok (.bool false) W := fun W => eql_vals W m n false (by simp [HB.out.mn])
  have d0 := cellAt (S.box (b := x16 + 1) 3 rfl) 0 (v := .string ⟨#[]⟩) rfl
  have d1 := cellAt (S.box (b := x16 + 1) 3 rfl) 1 (v := .int .i64 0) rfl
  have d2 := cellAt (S.box (b := x16 + 1) 3 rfl) 2 (v := .int .i64 0) rfl
  have d3 := cellAt (S.box (b := x16 + 1) 3 rfl) 3 (v := .string ⟨#[]⟩) rfl
  have d4 := cellAt (S.box (b := x16 + 1) 3 rfl) 4 (v := .bool false) rfl
  have d5 := cellAt (S.box (b := x20 + 1) 0 rfl) 0 (v := .string ⟨#[]⟩) rfl
  have d6 := cellAt (S.box (b := x20 + 1) 0 rfl) 1 (v := .int .i64 0) rfl
  have d7 := cellAt (S.box (b := x20 + 1) 0 rfl) 2 (v := .int .i64 0) rfl
  have d8 := cellAt (S.box (b := x20 + 1) 0 rfl) 3 (v := .string ⟨#[]⟩) rfl
  have d9 := cellAt (S.box (b := x20 + 1) 0 rfl) 4 (v := .bool false) rfl
  have d10 := cellAt (S.box (b := x16) 4 rfl) 0 (v := .int .i64 m.kind) rfl
  have d11 := cellAt (S.box (b := x16) 4 rfl) 1 (v := .int .i64 m.n) rfl
  have d12 := cellAt (S.box (b := x16) 4 rfl) 2 (v := .string m.s) rfl
  have d13 := cellAt (S.box (b := x18) 2 rfl) 0 (v := .int .i64 n.kind) rfl
  have d14 := cellAt (S.box (b := x18) 2 rfl) 1 (v := .int .i64 n.n) rfl
  have d15 := cellAt (S.box (b := x18) 2 rfl) 2 (v := .string n.s) rfl
  have d16 := cellAt (S.box (b := x20) 1 rfl) 0 (v := .int .i64 f.kind) rfl
  have d17 := cellAt (S.box (b := x20) 1 rfl) 1 (v := .int .i64 f.n) rfl
  have d18 := cellAt (S.box (b := x20) 1 rfl) 2 (v := .string f.s) rfl
  have d19 := cellAt (S.box (b := x12) 7 rfl) 0 (v := .int .i64 f.kind) rfl
  have d20 := cellAt (S.box (b := x12) 7 rfl) 1 (v := .int .i64 f.n) rfl
  have d21 := cellAt (S.box (b := x12) 7 rfl) 2 (v := .string f.s) rfl
  have M := Lib.hid (kb_kind S 11 rfl m 7 HB.out.km.1)
  clear S
  go_wp2_with fail
  try simp only [hx20]
  refine M.out.mono ?_
  rintro e w12 ⟨rfl, S⟩
  clear M d0 d1 d2 d3 d4 d5 d6 d7 d8 d9 d10 d11 d12 d13 d14 d15 d16 d17 d18 d19 d20 d21 hx20
  replace S : Sep w (boxR (x20 + 1) (.cells #[.string ⟨#[]⟩, .int .i64 0, .int .i64 0, .string ⟨#[]⟩, .bool false] 45) :: boxR x20 (.cells #[.int .i64 f.kind, .int .i64 f.n, .string f.s] 33) :: boxR x18 (.cells #[.int .i64 n.kind, .int .i64 n.n, .string n.s] 33) :: boxR (x16 + 1) (.cells #[.string ⟨#[]⟩, .int .i64 0, .int .i64 0, .string ⟨#[]⟩, .bool false] 45) :: boxR x16 (.cells #[.int .i64 m.kind, .int .i64 m.n, .string m.s] 33) :: boxR x14 (.cells #[.int .i64 o.kind, .int .i64 o.n, .string o.s] 33) :: boxR x13 (.cells #[.int .i64 a.kind, .int .i64 a.n, .string a.s] 33) :: boxR x12 (.cells #[.int .i64 f.kind, .int .i64 f.n, .string f.s] 33) :: valsR (.slice la L.length lc) L :: boxR x10 (.cells #[.int .i64 c.kind, .int .i64 c.n, .string c.s] 33) :: valsR (.slice oa out.length oc) out :: heapR h X5 :: boxR b (.cells #[sB, sH] 25) :: []) _ := S
  have d0 := cellAt (S.box (b := x16 + 1) 3 rfl) 0 (v := .string ⟨#[]⟩) rfl
  have d1 := cellAt (S.box (b := x16 + 1) 3 rfl) 1 (v := .int .i64 0) rfl
  have d2 := cellAt (S.box (b := x16 + 1) 3 rfl) 2 (v := .int .i64 0) rfl
  have d3 := cellAt (S.box (b := x16 + 1) 3 rfl) 3 (v := .string ⟨#[]⟩) rfl
  have d4 := cellAt (S.box (b := x16 + 1) 3 rfl) 4 (v := .bool false) rfl
  have d5 := cellAt (S.box (b := x20 + 1) 0 rfl) 0 (v := .string ⟨#[]⟩) rfl
  have d6 := cellAt (S.box (b := x20 + 1) 0 rfl) 1 (v := .int .i64 0) rfl
  have d7 := cellAt (S.box (b := x20 + 1) 0 rfl) 2 (v := .int .i64 0) rfl
  have d8 := cellAt (S.box (b := x20 + 1) 0 rfl) 3 (v := .string ⟨#[]⟩) rfl
  have d9 := cellAt (S.box (b := x20 + 1) 0 rfl) 4 (v := .bool false) rfl
  have d10 := cellAt (S.box (b := x16) 4 rfl) 0 (v := .int .i64 m.kind) rfl
  have d11 := cellAt (S.box (b := x16) 4 rfl) 1 (v := .int .i64 m.n) rfl
  have d12 := cellAt (S.box (b := x16) 4 rfl) 2 (v := .string m.s) rfl
  have d13 := cellAt (S.box (b := x18) 2 rfl) 0 (v := .int .i64 n.kind) rfl
  have d14 := cellAt (S.box (b := x18) 2 rfl) 1 (v := .int .i64 n.n) rfl
  have d15 := cellAt (S.box (b := x18) 2 rfl) 2 (v := .string n.s) rfl
  have d16 := cellAt (S.box (b := x20) 1 rfl) 0 (v := .int .i64 f.kind) rfl
  have d17 := cellAt (S.box (b := x20) 1 rfl) 1 (v := .int .i64 f.n) rfl
  have d18 := cellAt (S.box (b := x20) 1 rfl) 2 (v := .string f.s) rfl
  have d19 := cellAt (S.box (b := x12) 7 rfl) 0 (v := .int .i64 f.kind) rfl
  have d20 := cellAt (S.box (b := x12) 7 rfl) 1 (v := .int .i64 f.n) rfl
  have d21 := cellAt (S.box (b := x12) 7 rfl) 2 (v := .string f.s) rfl
  have M := Lib.hid (kb_kind S 11 rfl n 7 HB.out.km.2.1)
  clear S
  go_wp2_with fail
  refine M.out.mono ?_
  rintro e w13 ⟨rfl, S⟩
  clear M d0 d1 d2 d3 d4 d5 d6 d7 d8 d9 d10 d11 d12 d13 d14 d15 d16 d17 d18 d19 d20 d21
  replace S : Sep w (boxR (x20 + 1) (.cells #[.string ⟨#[]⟩, .int .i64 0, .int .i64 0, .string ⟨#[]⟩, .bool false] 45) :: boxR x20 (.cells #[.int .i64 f.kind, .int .i64 f.n, .string f.s] 33) :: boxR x18 (.cells #[.int .i64 n.kind, .int .i64 n.n, .string n.s] 33) :: boxR (x16 + 1) (.cells #[.string ⟨#[]⟩, .int .i64 0, .int .i64 0, .string ⟨#[]⟩, .bool false] 45) :: boxR x16 (.cells #[.int .i64 m.kind, .int .i64 m.n, .string m.s] 33) :: boxR x14 (.cells #[.int .i64 o.kind, .int .i64 o.n, .string o.s] 33) :: boxR x13 (.cells #[.int .i64 a.kind, .int .i64 a.n, .string a.s] 33) :: boxR x12 (.cells #[.int .i64 f.kind, .int .i64 f.n, .string f.s] 33) :: valsR (.slice la L.length lc) L :: boxR x10 (.cells #[.int .i64 c.kind, .int .i64 c.n, .string c.s] 33) :: valsR (.slice oa out.length oc) out :: heapR h X5 :: boxR b (.cells #[sB, sH] 25) :: []) _ := S
  have d0 := cellAt (S.box (b := x16 + 1) 3 rfl) 0 (v := .string ⟨#[]⟩) rfl
  have d1 := cellAt (S.box (b := x16 + 1) 3 rfl) 1 (v := .int .i64 0) rfl
  have d2 := cellAt (S.box (b := x16 + 1) 3 rfl) 2 (v := .int .i64 0) rfl
  have d3 := cellAt (S.box (b := x16 + 1) 3 rfl) 3 (v := .string ⟨#[]⟩) rfl
  have d4 := cellAt (S.box (b := x16 + 1) 3 rfl) 4 (v := .bool false) rfl
  have d5 := cellAt (S.box (b := x20 + 1) 0 rfl) 0 (v := .string ⟨#[]⟩) rfl
  have d6 := cellAt (S.box (b := x20 + 1) 0 rfl) 1 (v := .int .i64 0) rfl
  have d7 := cellAt (S.box (b := x20 + 1) 0 rfl) 2 (v := .int .i64 0) rfl
  have d8 := cellAt (S.box (b := x20 + 1) 0 rfl) 3 (v := .string ⟨#[]⟩) rfl
  have d9 := cellAt (S.box (b := x20 + 1) 0 rfl) 4 (v := .bool false) rfl
  have d10 := cellAt (S.box (b := x16) 4 rfl) 0 (v := .int .i64 m.kind) rfl
  have d11 := cellAt (S.box (b := x16) 4 rfl) 1 (v := .int .i64 m.n) rfl
  have d12 := cellAt (S.box (b := x16) 4 rfl) 2 (v := .string m.s) rfl
  have d13 := cellAt (S.box (b := x18) 2 rfl) 0 (v := .int .i64 n.kind) rfl
  have d14 := cellAt (S.box (b := x18) 2 rfl) 1 (v := .int .i64 n.n) rfl
  have d15 := cellAt (S.box (b := x18) 2 rfl) 2 (v := .string n.s) rfl
  have d16 := cellAt (S.box (b := x20) 1 rfl) 0 (v := .int .i64 f.kind) rfl
  have d17 := cellAt (S.box (b := x20) 1 rfl) 1 (v := .int .i64 f.n) rfl
  have d18 := cellAt (S.box (b := x20) 1 rfl) 2 (v := .string f.s) rfl
  have d19 := cellAt (S.box (b := x12) 7 rfl) 0 (v := .int .i64 f.kind) rfl
  have d20 := cellAt (S.box (b := x12) 7 rfl) 1 (v := .int .i64 f.n) rfl
  have d21 := cellAt (S.box (b := x12) 7 rfl) 2 (v := .string f.s) rfl
  have M := Lib.hid (kb_name S 11 rfl m HB.out.km.2.2)
  clear S
  go_wp2_with fail
  refine M.out.mono ?_
  rintro e w14 ⟨rfl, S⟩
  clear M d0 d1 d2 d3 d4 d5 d6 d7 d8 d9 d10 d11 d12 d13 d14 d15 d16 d17 d18 d19 d20 d21
  replace S : Sep w (boxR (x20 + 1) (.cells #[.string ⟨#[]⟩, .int .i64 0, .int .i64 0, .string ⟨#[]⟩, .bool false] 45) :: boxR x20 (.cells #[.int .i64 f.kind, .int .i64 f.n, .string f.s] 33) :: boxR x18 (.cells #[.int .i64 n.kind, .int .i64 n.n, .string n.s] 33) :: boxR (x16 + 1) (.cells #[.string ⟨#[]⟩, .int .i64 0, .int .i64 0, .string ⟨#[]⟩, .bool false] 45) :: boxR x16 (.cells #[.int .i64 m.kind, .int .i64 m.n, .string m.s] 33) :: boxR x14 (.cells #[.int .i64 o.kind, .int .i64 o.n, .string o.s] 33) :: boxR x13 (.cells #[.int .i64 a.kind, .int .i64 a.n, .string a.s] 33) :: boxR x12 (.cells #[.int .i64 f.kind, .int .i64 f.n, .string f.s] 33) :: valsR (.slice la L.length lc) L :: boxR x10 (.cells #[.int .i64 c.kind, .int .i64 c.n, .string c.s] 33) :: valsR (.slice oa out.length oc) out :: heapR h X5 :: boxR b (.cells #[sB, sH] 25) :: []) _ := S
  have S2 := S.alloc (.cells #[.int .i64 o.kind, .int .i64 o.n, .string o.s, .int .i64 f.kind, .int .i64 f.n, .string f.s] 33)
  obtain ⟨xw, hxw⟩ : ∃ gx_, (w14.heap.size) = gx_ := ⟨_, rfl⟩
  rw [hxw] at S2
  have u0 := cellAt (S.box (b := x14) 5 rfl) 0 (v := .int .i64 o.kind) rfl
  have u1 := cellAt (S.box (b := x14) 5 rfl) 1 (v := .int .i64 o.n) rfl
  have u2 := cellAt (S.box (b := x14) 5 rfl) 2 (v := .string o.s) rfl
  have u3 := cellAt (S.box (b := x12) 7 rfl) 0 (v := .int .i64 f.kind) rfl
  have u4 := cellAt (S.box (b := x12) 7 rfl) 1 (v := .int .i64 f.n) rfl
  have u5 := cellAt (S.box (b := x12) 7 rfl) 2 (v := .string f.s) rfl
  replace S : Sep w (boxR xw (.cells #[.int .i64 o.kind, .int .i64 o.n, .string o.s, .int .i64 f.kind, .int .i64 f.n, .string f.s] 33) :: boxR (x20 + 1) (.cells #[.string ⟨#[]⟩, .int .i64 0, .int .i64 0, .string ⟨#[]⟩, .bool false] 45) :: boxR x20 (.cells #[.int .i64 f.kind, .int .i64 f.n, .string f.s] 33) :: boxR x18 (.cells #[.int .i64 n.kind, .int .i64 n.n, .string n.s] 33) :: boxR (x16 + 1) (.cells #[.string ⟨#[]⟩, .int .i64 0, .int .i64 0, .string ⟨#[]⟩, .bool false] 45) :: boxR x16 (.cells #[.int .i64 m.kind, .int .i64 m.n, .string m.s] 33) :: boxR x14 (.cells #[.int .i64 o.kind, .int .i64 o.n, .string o.s] 33) :: boxR x13 (.cells #[.int .i64 a.kind, .int .i64 a.n, .string a.s] 33) :: boxR x12 (.cells #[.int .i64 f.kind, .int .i64 f.n, .string f.s] 33) :: valsR (.slice la L.length lc) L :: boxR x10 (.cells #[.int .i64 c.kind, .int .i64 c.n, .string c.s] 33) :: valsR (.slice oa out.length oc) out :: heapR h X5 :: boxR b (.cells #[sB, sH] 25) :: []) _ := S2
  clear S2
  have d0 := cellAt (S.box (b := x16) 5 rfl) 0 (v := .int .i64 m.kind) rfl
  have d1 := cellAt (S.box (b := x16) 5 rfl) 1 (v := .int .i64 m.n) rfl
  have d2 := cellAt (S.box (b := x16) 5 rfl) 2 (v := .string m.s) rfl
  have M := Lib.hid (kb_items S 12 rfl HB.out.f5.G (by omega) m [o, f] HB.out.im.1)
  clear S
  go_wp2_with fail
  try simp only [hxw]
  refine M.out.mono ?_
  rintro e w15 ⟨va, vc, rfl, S⟩
  clear M d0 d1 d2 hxw
  clear u0 u1 u2 u3 u4 u5 NQ EMN EZ
  replace S : Sep w (valsR (.slice va [o, f].length vc) [o, f] :: boxR xw (.cells #[.int .i64 o.kind, .int .i64 o.n, .string o.s, .int .i64 f.kind, .int .i64 f.n, .string f.s] 33) :: boxR (x20 + 1) (.cells #[.string ⟨#[]⟩, .int .i64 0, .int .i64 0, .string ⟨#[]⟩, .bool false] 45) :: boxR x20 (.cells #[.int .i64 f.kind, .int .i64 f.n, .string f.s] 33) :: boxR x18 (.cells #[.int .i64 n.kind, .int .i64 n.n, .string n.s] 33) :: boxR (x16 + 1) (.cells #[.string ⟨#[]⟩, .int .i64 0, .int .i64 0, .string ⟨#[]⟩, .bool false] 45) :: boxR x16 (.cells #[.int .i64 m.kind, .int .i64 m.n, .string m.s] 33) :: boxR x14 (.cells #[.int .i64 o.kind, .int .i64 o.n, .string o.s] 33) :: boxR x13 (.cells #[.int .i64 a.kind, .int .i64 a.n, .string a.s] 33) :: boxR x12 (.cells #[.int .i64 f.kind, .int .i64 f.n, .string f.s] 33) :: valsR (.slice la L.length lc) L :: boxR x10 (.cells #[.int .i64 c.kind, .int .i64 c.n, .string c.s] 33) :: valsR (.slice oa out.length oc) out :: heapR h X5 :: boxR b (.cells #[sB, sH] 25) :: []) _ := S
  have M1 := (same_vals w15 _ _ [o, f] [o, f] (S.row 0 rfl).sees' (seesV_two o f (S.box (b := xw) 1 rfl))).mono fun e W1 (hh : _ ∧ _) => (⟨by rw [hh.1]; simp, by obtain ⟨q, e2⟩ := hh.2; rw [e2]; exact S.drewN q⟩ : e = .returned (.bool true) ∧ Sep w (valsR (.slice va [o, f].length vc) [o, f] :: boxR xw (.cells #[.int .i64 o.kind, .int .i64 o.n, .string o.s, .int .i64 f.kind, .int .i64 f.n, .string f.s] 33) :: boxR (x20 + 1) (.cells #[.string ⟨#[]⟩, .int .i64 0, .int .i64 0, .string ⟨#[]⟩, .bool false] 45) :: boxR x20 (.cells #[.int .i64 f.kind, .int .i64 f.n, .string f.s] 33) :: boxR x18 (.cells #[.int .i64 n.kind, .int .i64 n.n, .string n.s] 33) :: boxR (x16 + 1) (.cells #[.string ⟨#[]⟩, .int .i64 0, .int .i64 0, .string ⟨#[]⟩, .bool false] 45) :: boxR x16 (.cells #[.int .i64 m.kind, .int .i64 m.n, .string m.s] 33) :: boxR x14 (.cells #[.int .i64 o.kind, .int .i64 o.n, .string o.s] 33) :: boxR x13 (.cells #[.int .i64 a.kind, .int .i64 a.n, .string a.s] 33) :: boxR x12 (.cells #[.int .i64 f.kind, .int .i64 f.n, .string f.s] 33) :: valsR (.slice la L.length lc) L :: boxR x10 (.cells #[.int .i64 c.kind, .int .i64 c.n, .string c.s] 33) :: valsR (.slice oa out.length oc) out :: heapR h X5 :: boxR b (.cells #[sB, sH] 25) :: []) W1)
  have M := Lib.hid (M1)
  clear S
  go_wp2_with fail
  refine M.out.mono ?_
  rintro e w16 ⟨rfl, S⟩
  clear M
  replace S : Sep w (valsR (.slice va [o, f].length vc) [o, f] :: boxR xw (.cells #[.int .i64 o.kind, .int .i64 o.n, .string o.s, .int .i64 f.kind, .int .i64 f.n, .string f.s] 33) :: boxR (x20 + 1) (.cells #[.string ⟨#[]⟩, .int .i64 0, .int .i64 0, .string ⟨#[]⟩, .bool false] 45) :: boxR x20 (.cells #[.int .i64 f.kind, .int .i64 f.n, .string f.s] 33) :: boxR x18 (.cells #[.int .i64 n.kind, .int .i64 n.n, .string n.s] 33) :: boxR (x16 + 1) (.cells #[.string ⟨#[]⟩, .int .i64 0, .int .i64 0, .string ⟨#[]⟩, .bool false] 45) :: boxR x16 (.cells #[.int .i64 m.kind, .int .i64 m.n, .string m.s] 33) :: boxR x14 (.cells #[.int .i64 o.kind, .int .i64 o.n, .string o.s] 33) :: boxR x13 (.cells #[.int .i64 a.kind, .int .i64 a.n, .string a.s] 33) :: boxR x12 (.cells #[.int .i64 f.kind, .int .i64 f.n, .string f.s] 33) :: valsR (.slice la L.length lc) L :: boxR x10 (.cells #[.int .i64 c.kind, .int .i64 c.n, .string c.s] 33) :: valsR (.slice oa out.length oc) out :: heapR h X5 :: boxR b (.cells #[sB, sH] 25) :: []) _ := S
  have d0 := cellAt (S.box (b := x18) 4 rfl) 0 (v := .int .i64 n.kind) rfl
  have d1 := cellAt (S.box (b := x18) 4 rfl) 1 (v := .int .i64 n.n) rfl
  have d2 := cellAt (S.box (b := x18) 4 rfl) 2 (v := .string n.s) rfl
  have M := Lib.hid (kb_items S 13 rfl HB.out.f5.G (by omega) n [o, f] HB.out.im.2)
  clear S
  go_wp2_with fail
  refine M.out.mono ?_
  rintro e w17 ⟨va2, vc2, rfl, S⟩
  clear M d0 d1 d2
  replace S : Sep w (valsR (.slice va2 [o, f].length vc2) [o, f] :: valsR (.slice va [o, f].length vc) [o, f] :: boxR xw (.cells #[.int .i64 o.kind, .int .i64 o.n, .string o.s, .int .i64 f.kind, .int .i64 f.n, .string f.s] 33) :: boxR (x20 + 1) (.cells #[.string ⟨#[]⟩, .int .i64 0, .int .i64 0, .string ⟨#[]⟩, .bool false] 45) :: boxR x20 (.cells #[.int .i64 f.kind, .int .i64 f.n, .string f.s] 33) :: boxR x18 (.cells #[.int .i64 n.kind, .int .i64 n.n, .string n.s] 33) :: boxR (x16 + 1) (.cells #[.string ⟨#[]⟩, .int .i64 0, .int .i64 0, .string ⟨#[]⟩, .bool false] 45) :: boxR x16 (.cells #[.int .i64 m.kind, .int .i64 m.n, .string m.s] 33) :: boxR x14 (.cells #[.int .i64 o.kind, .int .i64 o.n, .string o.s] 33) :: boxR x13 (.cells #[.int .i64 a.kind, .int .i64 a.n, .string a.s] 33) :: boxR x12 (.cells #[.int .i64 f.kind, .int .i64 f.n, .string f.s] 33) :: valsR (.slice la L.length lc) L :: boxR x10 (.cells #[.int .i64 c.kind, .int .i64 c.n, .string c.s] 33) :: valsR (.slice oa out.length oc) out :: heapR h X5 :: boxR b (.cells #[sB, sH] 25) :: []) _ := S
  have M1 := (same_vals w17 _ _ [o, f] [o, f] (S.row 0 rfl).sees' (seesV_two o f (S.box (b := xw) 2 rfl))).mono fun e W1 (hh : _ ∧ _) => (⟨by rw [hh.1]; simp, by obtain ⟨q, e2⟩ := hh.2; rw [e2]; exact S.drewN q⟩ : e = .returned (.bool true) ∧ Sep w (valsR (.slice va2 [o, f].length vc2) [o, f] :: valsR (.slice va [o, f].length vc) [o, f] :: boxR xw (.cells #[.int .i64 o.kind, .int .i64 o.n, .string o.s, .int .i64 f.kind, .int .i64 f.n, .string f.s] 33) :: boxR (x20 + 1) (.cells #[.string ⟨#[]⟩, .int .i64 0, .int .i64 0, .string ⟨#[]⟩, .bool false] 45) :: boxR x20 (.cells #[.int .i64 f.kind, .int .i64 f.n, .string f.s] 33) :: boxR x18 (.cells #[.int .i64 n.kind, .int .i64 n.n, .string n.s] 33) :: boxR (x16 + 1) (.cells #[.string ⟨#[]⟩, .int .i64 0, .int .i64 0, .string ⟨#[]⟩, .bool false] 45) :: boxR x16 (.cells #[.int .i64 m.kind, .int .i64 m.n, .string m.s] 33) :: boxR x14 (.cells #[.int .i64 o.kind, .int .i64 o.n, .string o.s] 33) :: boxR x13 (.cells #[.int .i64 a.kind, .int .i64 a.n, .string a.s] 33) :: boxR x12 (.cells #[.int .i64 f.kind, .int .i64 f.n, .string f.s] 33) :: valsR (.slice la L.length lc) L :: boxR x10 (.cells #[.int .i64 c.kind, .int .i64 c.n, .string c.s] 33) :: valsR (.slice oa out.length oc) out :: heapR h X5 :: boxR b (.cells #[sB, sH] 25) :: []) W1)
  have M := Lib.hid (M1)
  clear S
  go_wp2_with fail
  refine M.out.mono ?_
  rintro e w18 ⟨rfl, S⟩
  clear M
  replace S : Sep w (valsR (.slice va2 [o, f].length vc2) [o, f] :: valsR (.slice va [o, f].length vc) [o, f] :: boxR xw (.cells #[.int .i64 o.kind, .int .i64 o.n, .string o.s, .int .i64 f.kind, .int .i64 f.n, .string f.s] 33) :: boxR (x20 + 1) (.cells #[.string ⟨#[]⟩, .int .i64 0, .int .i64 0, .string ⟨#[]⟩, .bool false] 45) :: boxR x20 (.cells #[.int .i64 f.kind, .int .i64 f.n, .string f.s] 33) :: boxR x18 (.cells #[.int .i64 n.kind, .int .i64 n.n, .string n.s] 33) :: boxR (x16 + 1) (.cells #[.string ⟨#[]⟩, .int .i64 0, .int .i64 0, .string ⟨#[]⟩, .bool false] 45) :: boxR x16 (.cells #[.int .i64 m.kind, .int .i64 m.n, .string m.s] 33) :: boxR x14 (.cells #[.int .i64 o.kind, .int .i64 o.n, .string o.s] 33) :: boxR x13 (.cells #[.int .i64 a.kind, .int .i64 a.n, .string a.s] 33) :: boxR x12 (.cells #[.int .i64 f.kind, .int .i64 f.n, .string f.s] 33) :: valsR (.slice la L.length lc) L :: boxR x10 (.cells #[.int .i64 c.kind, .int .i64 c.n, .string c.s] 33) :: valsR (.slice oa out.length oc) out :: heapR h X5 :: boxR b (.cells #[sB, sH] 25) :: []) _ := S
  have d0 := cellAt (S.box (b := x14) 8 rfl) 0 (v := .int .i64 o.kind) rfl
  have d1 := cellAt (S.box (b := x14) 8 rfl) 1 (v := .int .i64 o.n) rfl
  have d2 := cellAt (S.box (b := x14) 8 rfl) 2 (v := .string o.s) rfl
  have d3 := cellAt (S.box (b := x12) 10 rfl) 0 (v := .int .i64 f.kind) rfl
  have d4 := cellAt (S.box (b := x12) 10 rfl) 1 (v := .int .i64 f.n) rfl
  have d5 := cellAt (S.box (b := x12) 10 rfl) 2 (v := .string f.s) rfl
  have M := Lib.hid (kb_set S 14 rfl o f HB.out.p5 X6 HB.out.e6)
  clear S
  go_wp2_with fail
  refine M.out.mono ?_
  rintro e w19 ⟨rfl, S⟩
  clear M d0 d1 d2 d3 d4 d5
  replace S : Sep w (valsR (.slice va2 [o, f].length vc2) [o, f] :: valsR (.slice va [o, f].length vc) [o, f] :: boxR xw (.cells #[.int .i64 o.kind, .int .i64 o.n, .string o.s, .int .i64 f.kind, .int .i64 f.n, .string f.s] 33) :: boxR (x20 + 1) (.cells #[.string ⟨#[]⟩, .int .i64 0, .int .i64 0, .string ⟨#[]⟩, .bool false] 45) :: boxR x20 (.cells #[.int .i64 f.kind, .int .i64 f.n, .string f.s] 33) :: boxR x18 (.cells #[.int .i64 n.kind, .int .i64 n.n, .string n.s] 33) :: boxR (x16 + 1) (.cells #[.string ⟨#[]⟩, .int .i64 0, .int .i64 0, .string ⟨#[]⟩, .bool false] 45) :: boxR x16 (.cells #[.int .i64 m.kind, .int .i64 m.n, .string m.s] 33) :: boxR x14 (.cells #[.int .i64 o.kind, .int .i64 o.n, .string o.s] 33) :: boxR x13 (.cells #[.int .i64 a.kind, .int .i64 a.n, .string a.s] 33) :: boxR x12 (.cells #[.int .i64 f.kind, .int .i64 f.n, .string f.s] 33) :: valsR (.slice la L.length lc) L :: boxR x10 (.cells #[.int .i64 c.kind, .int .i64 c.n, .string c.s] 33) :: valsR (.slice oa out.length oc) out :: heapR h X6 :: boxR b (.cells #[sB, sH] 25) :: []) _ := S
  obtain ⟨x23, hx23⟩ : ∃ gx_, (w19.heap.size) = gx_ := ⟨_, rfl⟩
  replace S := (S.alloc (.cells #[.string ⟨#[]⟩, .int .i64 0, .int .i64 0, .string ⟨#[]⟩, .bool false] 45))
  simp only [World.size_alloc, hx23] at S
  replace S : Sep w (boxR x23 (.cells #[.string ⟨#[]⟩, .int .i64 0, .int .i64 0, .string ⟨#[]⟩, .bool false] 45) :: valsR (.slice va2 [o, f].length vc2) [o, f] :: valsR (.slice va [o, f].length vc) [o, f] :: boxR xw (.cells #[.int .i64 o.kind, .int .i64 o.n, .string o.s, .int .i64 f.kind, .int .i64 f.n, .string f.s] 33) :: boxR (x20 + 1) (.cells #[.string ⟨#[]⟩, .int .i64 0, .int .i64 0, .string ⟨#[]⟩, .bool false] 45) :: boxR x20 (.cells #[.int .i64 f.kind, .int .i64 f.n, .string f.s] 33) :: boxR x18 (.cells #[.int .i64 n.kind, .int .i64 n.n, .string n.s] 33) :: boxR (x16 + 1) (.cells #[.string ⟨#[]⟩, .int .i64 0, .int .i64 0, .string ⟨#[]⟩, .bool false] 45) :: boxR x16 (.cells #[.int .i64 m.kind, .int .i64 m.n, .string m.s] 33) :: boxR x14 (.cells #[.int .i64 o.kind, .int .i64 o.n, .string o.s] 33) :: boxR x13 (.cells #[.int .i64 a.kind, .int .i64 a.n, .string a.s] 33) :: boxR x12 (.cells #[.int .i64 f.kind, .int .i64 f.n, .string f.s] 33) :: valsR (.slice la L.length lc) L :: boxR x10 (.cells #[.int .i64 c.kind, .int .i64 c.n, .string c.s] 33) :: valsR (.slice oa out.length oc) out :: heapR h X6 :: boxR b (.cells #[sB, sH] 25) :: []) _ := S
  have d0 := cellAt (S.box (b := x14) 9 rfl) 0 (v := .int .i64 o.kind) rfl
  have d1 := cellAt (S.box (b := x14) 9 rfl) 1 (v := .int .i64 o.n) rfl
  have d2 := cellAt (S.box (b := x14) 9 rfl) 2 (v := .string o.s) rfl
  have M := Lib.hid (kb_get S 15 rfl HB.out.f6 (by omega) o f X6 HB.out.g6)
  clear S
  go_wp2_with fail
  try simp only [hx23]
  refine M.out.mono ?_
  rintro e w20 ⟨rfl, S⟩
  clear M d0 d1 d2 hx23
  replace S : Sep w (boxR x23 (.cells #[.string ⟨#[]⟩, .int .i64 0, .int .i64 0, .string ⟨#[]⟩, .bool false] 45) :: valsR (.slice va2 [o, f].length vc2) [o, f] :: valsR (.slice va [o, f].length vc) [o, f] :: boxR xw (.cells #[.int .i64 o.kind, .int .i64 o.n, .string o.s, .int .i64 f.kind, .int .i64 f.n, .string f.s] 33) :: boxR (x20 + 1) (.cells #[.string ⟨#[]⟩, .int .i64 0, .int .i64 0, .string ⟨#[]⟩, .bool false] 45) :: boxR x20 (.cells #[.int .i64 f.kind, .int .i64 f.n, .string f.s] 33) :: boxR x18 (.cells #[.int .i64 n.kind, .int .i64 n.n, .string n.s] 33) :: boxR (x16 + 1) (.cells #[.string ⟨#[]⟩, .int .i64 0, .int .i64 0, .string ⟨#[]⟩, .bool false] 45) :: boxR x16 (.cells #[.int .i64 m.kind, .int .i64 m.n, .string m.s] 33) :: boxR x14 (.cells #[.int .i64 o.kind, .int .i64 o.n, .string o.s] 33) :: boxR x13 (.cells #[.int .i64 a.kind, .int .i64 a.n, .string a.s] 33) :: boxR x12 (.cells #[.int .i64 f.kind, .int .i64 f.n, .string f.s] 33) :: valsR (.slice la L.length lc) L :: boxR x10 (.cells #[.int .i64 c.kind, .int .i64 c.n, .string c.s] 33) :: valsR (.slice oa out.length oc) out :: heapR h X6 :: boxR b (.cells #[sB, sH] 25) :: []) _ := S
  obtain ⟨x24, hx24⟩ : ∃ gx_, (w20.heap.size) = gx_ := ⟨_, rfl⟩
  replace S := ((S.alloc (.cells #[.int .i64 f.kind, .int .i64 f.n, .string f.s] 33)).alloc (.cells #[.string ⟨#[]⟩, .int .i64 0, .int .i64 0, .string ⟨#[]⟩, .bool false] 45))
  simp only [World.size_alloc, hx24] at S
  replace S : Sep w (boxR (x24 + 1) (.cells #[.string ⟨#[]⟩, .int .i64 0, .int .i64 0, .string ⟨#[]⟩, .bool false] 45) :: boxR x24 (.cells #[.int .i64 f.kind, .int .i64 f.n, .string f.s] 33) :: boxR x23 (.cells #[.string ⟨#[]⟩, .int .i64 0, .int .i64 0, .string ⟨#[]⟩, .bool false] 45) :: valsR (.slice va2 [o, f].length vc2) [o, f] :: valsR (.slice va [o, f].length vc) [o, f] :: boxR xw (.cells #[.int .i64 o.kind, .int .i64 o.n, .string o.s, .int .i64 f.kind, .int .i64 f.n, .string f.s] 33) :: boxR (x20 + 1) (.cells #[.string ⟨#[]⟩, .int .i64 0, .int .i64 0, .string ⟨#[]⟩, .bool false] 45) :: boxR x20 (.cells #[.int .i64 f.kind, .int .i64 f.n, .string f.s] 33) :: boxR x18 (.cells #[.int .i64 n.kind, .int .i64 n.n, .string n.s] 33) :: boxR (x16 + 1) (.cells #[.string ⟨#[]⟩, .int .i64 0, .int .i64 0, .string ⟨#[]⟩, .bool false] 45) :: boxR x16 (.cells #[.int .i64 m.kind, .int .i64 m.n, .string m.s] 33) :: boxR x14 (.cells #[.int .i64 o.kind, .int .i64 o.n, .string o.s] 33) :: boxR x13 (.cells #[.int .i64 a.kind, .int .i64 a.n, .string a.s] 33) :: boxR x12 (.cells #[.int .i64 f.kind, .int .i64 f.n, .string f.s] 33) :: valsR (.slice la L.length lc) L :: boxR x10 (.cells #[.int .i64 c.kind, .int .i64 c.n, .string c.s] 33) :: valsR (.slice oa out.length oc) out :: heapR h X6 :: boxR b (.cells #[sB, sH] 25) :: []) _ := S
  have d0 := cellAt (S.box (b := x14) 11 rfl) 0 (v := .int .i64 o.kind) rfl
  have d1 := cellAt (S.box (b := x14) 11 rfl) 1 (v := .int .i64 o.n) rfl
  have d2 := cellAt (S.box (b := x14) 11 rfl) 2 (v := .string o.s) rfl
  have M := Lib.hid (kb_spec S 17 rfl HB.out.f6 (by omega) o s X7 HB.out.h6)
  clear S
  go_wp2_with fail
  try simp only [hx24]
  refine M.out.mono ?_
  rintro e w21 ⟨rfl, S⟩
  clear M d0 d1 d2 hx24
  replace S : Sep w (boxR (x24 + 1) (.cells #[.string ⟨#[]⟩, .int .i64 0, .int .i64 0, .string ⟨#[]⟩, .bool false] 45) :: boxR x24 (.cells #[.int .i64 f.kind, .int .i64 f.n, .string f.s] 33) :: boxR x23 (.cells #[.string ⟨#[]⟩, .int .i64 0, .int .i64 0, .string ⟨#[]⟩, .bool false] 45) :: valsR (.slice va2 [o, f].length vc2) [o, f] :: valsR (.slice va [o, f].length vc) [o, f] :: boxR xw (.cells #[.int .i64 o.kind, .int .i64 o.n, .string o.s, .int .i64 f.kind, .int .i64 f.n, .string f.s] 33) :: boxR (x20 + 1) (.cells #[.string ⟨#[]⟩, .int .i64 0, .int .i64 0, .string ⟨#[]⟩, .bool false] 45) :: boxR x20 (.cells #[.int .i64 f.kind, .int .i64 f.n, .string f.s] 33) :: boxR x18 (.cells #[.int .i64 n.kind, .int .i64 n.n, .string n.s] 33) :: boxR (x16 + 1) (.cells #[.string ⟨#[]⟩, .int .i64 0, .int .i64 0, .string ⟨#[]⟩, .bool false] 45) :: boxR x16 (.cells #[.int .i64 m.kind, .int .i64 m.n, .string m.s] 33) :: boxR x14 (.cells #[.int .i64 o.kind, .int .i64 o.n, .string o.s] 33) :: boxR x13 (.cells #[.int .i64 a.kind, .int .i64 a.n, .string a.s] 33) :: boxR x12 (.cells #[.int .i64 f.kind, .int .i64 f.n, .string f.s] 33) :: valsR (.slice la L.length lc) L :: boxR x10 (.cells #[.int .i64 c.kind, .int .i64 c.n, .string c.s] 33) :: valsR (.slice oa out.length oc) out :: heapR h X7 :: boxR b (.cells #[sB, sH] 25) :: []) _ := S
  obtain ⟨x26, hx26⟩ : ∃ gx_, (w21.heap.size) = gx_ := ⟨_, rfl⟩
  replace S := (S.alloc (.cells #[.int .i64 s.kind, .int .i64 s.n, .string s.s] 33))
  simp only [World.size_alloc, hx26] at S
  replace S : Sep w (boxR x26 (.cells #[.int .i64 s.kind, .int .i64 s.n, .string s.s] 33) :: boxR (x24 + 1) (.cells #[.string ⟨#[]⟩, .int .i64 0, .int .i64 0, .string ⟨#[]⟩, .bool false] 45) :: boxR x24 (.cells #[.int .i64 f.kind, .int .i64 f.n, .string f.s] 33) :: boxR x23 (.cells #[.string ⟨#[]⟩, .int .i64 0, .int .i64 0, .string ⟨#[]⟩, .bool false] 45) :: valsR (.slice va2 [o, f].length vc2) [o, f] :: valsR (.slice va [o, f].length vc) [o, f] :: boxR xw (.cells #[.int .i64 o.kind, .int .i64 o.n, .string o.s, .int .i64 f.kind, .int .i64 f.n, .string f.s] 33) :: boxR (x20 + 1) (.cells #[.string ⟨#[]⟩, .int .i64 0, .int .i64 0, .string ⟨#[]⟩, .bool false] 45) :: boxR x20 (.cells #[.int .i64 f.kind, .int .i64 f.n, .string f.s] 33) :: boxR x18 (.cells #[.int .i64 n.kind, .int .i64 n.n, .string n.s] 33) :: boxR (x16 + 1) (.cells #[.string ⟨#[]⟩, .int .i64 0, .int .i64 0, .string ⟨#[]⟩, .bool false] 45) :: boxR x16 (.cells #[.int .i64 m.kind, .int .i64 m.n, .string m.s] 33) :: boxR x14 (.cells #[.int .i64 o.kind, .int .i64 o.n, .string o.s] 33) :: boxR x13 (.cells #[.int .i64 a.kind, .int .i64 a.n, .string a.s] 33) :: boxR x12 (.cells #[.int .i64 f.kind, .int .i64 f.n, .string f.s] 33) :: valsR (.slice la L.length lc) L :: boxR x10 (.cells #[.int .i64 c.kind, .int .i64 c.n, .string c.s] 33) :: valsR (.slice oa out.length oc) out :: heapR h X7 :: boxR b (.cells #[sB, sH] 25) :: []) _ := S
  have EZ : ∀ W, (binOp .eql 45 excZ excZ).run Try.prog W = .ok (.bool true) W := fun W => by go_simp
  have EV : ∀ W, (binOp .eql 33 (.agg #[.int .i64 f.kind, .int .i64 f.n, .string f.s]) (.agg #[.int .i64 f.kind, .int .i64 f.n, .string f.s])).run Try.prog W = .ok (.bool true) W := fun W => eql_vals W f f true (by simp)
  have d0 := cellAt (S.box (b := x23) 3 rfl) 0 (v := .string ⟨#[]⟩) rfl
  have d1 := cellAt (S.box (b := x23) 3 rfl) 1 (v := .int .i64 0) rfl
  have d2 := cellAt (S.box (b := x23) 3 rfl) 2 (v := .int .i64 0) rfl
  have d3 := cellAt (S.box (b := x23) 3 rfl) 3 (v := .string ⟨#[]⟩) rfl
  have d4 := cellAt (S.box (b := x23) 3 rfl) 4 (v := .bool false) rfl
  have d5 := cellAt (S.box (b := x24) 2 rfl) 0 (v := .int .i64 f.kind) rfl
  have d6 := cellAt (S.box (b := x24) 2 rfl) 1 (v := .int .i64 f.n) rfl
  have d7 := cellAt (S.box (b := x24) 2 rfl) 2 (v := .string f.s) rfl
  have d8 := cellAt (S.box (b := x12) 14 rfl) 0 (v := .int .i64 f.kind) rfl
  have d9 := cellAt (S.box (b := x12) 14 rfl) 1 (v := .int .i64 f.n) rfl
  have d10 := cellAt (S.box (b := x12) 14 rfl) 2 (v := .string f.s) rfl
  have d11 := cellAt (S.box (b := x24 + 1) 1 rfl) 0 (v := .string ⟨#[]⟩) rfl
  have d12 := cellAt (S.box (b := x24 + 1) 1 rfl) 1 (v := .int .i64 0) rfl
  have d13 := cellAt (S.box (b := x24 + 1) 1 rfl) 2 (v := .int .i64 0) rfl
  have d14 := cellAt (S.box (b := x24 + 1) 1 rfl) 3 (v := .string ⟨#[]⟩) rfl
  have d15 := cellAt (S.box (b := x24 + 1) 1 rfl) 4 (v := .bool false) rfl
  have d16 := cellAt (S.box (b := x26) 0 rfl) 0 (v := .int .i64 s.kind) rfl
  have d17 := cellAt (S.box (b := x26) 0 rfl) 1 (v := .int .i64 s.n) rfl
  have d18 := cellAt (S.box (b := x26) 0 rfl) 2 (v := .string s.s) rfl
  have M := Lib.hid (kb_kind S 18 rfl s 7 HB.out.ks)
  clear S
  go_wp2_with fail
  try simp only [hx26]
  refine M.out.mono ?_
  rintro e w22 ⟨rfl, S⟩
  clear M d0 d1 d2 d3 d4 d5 d6 d7 d8 d9 d10 d11 d12 d13 d14 d15 d16 d17 d18 hx26
  replace S := Lib.hid S.below
  go_wp2
  go_ret
  exact ⟨rfl, S.out⟩
set_option maxRecDepth 100000 in
theorem lifted (os : Os) (started : os.Started) (H : Type) (enc : TypeId × Value → H) :
    ReturnsInHanded {} Try.checked os 4 .any (Rows.objectBoundSpec.pre6 enc Try.prog Try.f4 Rows.objectBoundRow.domain false) (Rows.objectBoundSpec.post enc Try.prog Try.f4 false true false false) := by
  refine law_lift (C := Try.checked) own started (by kernel_rfl) Try.func4
    (ChangeSpec.witness6 (enc := enc) (C := Try.checked) false ⟨#[], #[.agg #[.slice none 0 0, .slice none 0 0], .int .i64 0, .int .i64 0], []⟩ 8 (by kernel_rfl) (by kernel_rfl) (by kernel_rfl) (by kernel_rfl))
    (by kernel_rfl) (by kernel_rfl) rfl (fun ds h => by
      match ds, h with
      | [d1, d2, d3], _ => exact ⟨rfl, rfl, rfl⟩) rfl Try.underlying4 ?_
  intro W base args ds ps hval hA hlt hwt hsh
  rw [Try.params4] at hA hval
  obtain ⟨v0, vs0, d0, ds0, p0, q0, hargs, rfl, rfl, h0, r0⟩ := trodAll_cons hA
  obtain ⟨v1, vs1, d1, ds1, p1, q1, rfl, rfl, rfl, h1, r1⟩ := trodAll_cons r0
  obtain ⟨v2, vs2, d2, ds2, p2, q2, rfl, rfl, rfl, h2, r2⟩ := trodAll_cons r1
  obtain ⟨rfl, rfl, rfl⟩ := trodAll_nil r2
  obtain rfl : args = #[v0, v1, v2] := by cases args; simp_all
  obtain ⟨cs0, rfl, hsz0⟩ := okWide_struct Try.underlying25 (hval 0 25 v0 rfl rfl)
  obtain ⟨fuel0, hf0⟩ := h0
  obtain ⟨sB0, sH0, e0, sI0⟩ := open_some (cs := cs0.toList) hf0
  obtain rfl : cs0 = [sB0, sH0].toArray := by rw [← e0]
  obtain ⟨a1, rfl, rfl, rfl, w1⟩ := open_int Try.underlying3 (hval 1 3 v1 rfl rfl) h1
  obtain ⟨a2, rfl, rfl, rfl, w2⟩ := open_int Try.underlying3 (hval 2 3 v2 rfl rfl) h2
  -- WALK
  exact walk W _ _ sI0 a1 a2
theorem proved : Rows.ObjectBoundSaid :=
  OpenClaim.holds_of_wide 4 Try.f4 rfl rfl rfl rfl rfl rfl rfl ⟨rfl, rfl, rfl, rfl, rfl⟩ rfl rfl rfl rfl rfl (by kernel_rfl) Try.func4 (by kernel_rfl)
    (of_decide_eq_true (by kernel_rfl)) (by unfold Func.isWrapper; first | (rw [if_pos (by decide +kernel)]; kernel_rfl) | (rw [if_neg (by decide +kernel)]; exact ⟨rfl, rfl⟩))
    (fun os started H enc _ => lifted os started H enc)
#print axioms proved
end Go.Proofs.Ytkocenlglodklaa.objectBound
