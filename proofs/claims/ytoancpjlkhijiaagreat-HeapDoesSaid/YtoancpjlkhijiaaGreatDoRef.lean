/- The law's doRef at the reference's heap. -/
import Derived.Test.YtoancpjlkhijiaaGreatRef8
import Derived.Test.YtoancpjlkhijiaaGreatDoA
import Derived.Test.YtoancpjlkhijiaaGreatMade
namespace Go.Proofs.YtoancpjlkhijiaaGreat
set_option linter.unusedSimpArgs false
open Go.RowKit
set_option linter.unusedVariables false
section
variable {w W : World} {r : Nat} {H : HeapM} {N : Nat} {Rs : List Res}
theorem Sep.front2 {A B R : Res} (S : Sep w (A :: B :: R :: Rs) W) : Sep w (R :: A :: B :: Rs) W := S.perm (List.perm_middle (l₁ := [A, B]))
/-- doRef's two boxes are left behind. -/
theorem Sep.shutZ {R B : Res} {z : Nat} (S : Sep w (R :: boxR z (valObj V.zero) :: B :: Rs) W) (u0 u1 u2 : Value) : Sep w (R :: Rs) (((W.setCell ⟨z, 0, none⟩ u0).setCell ⟨z, 1, none⟩ u1).setCell ⟨z, 2, none⟩ u2) :=
  (((S.setBox (cs := #[.int .i64 0, .int .i64 0, .string ⟨#[]⟩]) (t := 31) 1 rfl 0 u0).setBox (cs := #[u0, .int .i64 0, .string ⟨#[]⟩]) (t := 31) 1 rfl 1 u1).setBox (cs := #[u0, u1, .string ⟨#[]⟩]) (t := 31) 1 rfl 2 u2).sub (.cons_cons _ (.cons _ (.cons _ (List.Sublist.refl _))))
def RefDone (w : World) (r : Nat) (H' : HeapM) (Rs : List Res) (n : Int) (v : Value) (e : Ending) (W' : World) : Prop := e = .returned (.tuple #[.int .i64 n, v]) ∧ Sep w (refR r H' :: Rs) W'
def opObjZ (cs : Array Value) : Obj := .cells cs 36
set_option maxRecDepth 100000 in
set_option maxHeartbeats 1600000 in
theorem doRef_2 (S : Sep w (refR r H :: Rs) W) (F : H.Fit N) (o : OpM) (hd : o.d = 2) (hin : o.In w) (hN : N + o.l.length + 1 ≤ 4000000) : Calls Tryz.prog 7 #[.pointer (some ⟨r, 0, none⟩), o.val] W (RefDone w r (H.setNum o.v o.n o.hn) Rs (((H.of o.v).isSome).toNat) (.agg #[.int .i64 0, .int .i64 0, .string ⟨#[]⟩])) := by
  obtain ⟨d, kd, i, j, nm, n, v, k, x, a, l, cap, hd', hkd, hi, hj, hn, hs⟩ := o
  simp only [OpM.sl, OpM.In] at *
  try simp only at hd
  subst hd
  have S2 := ((S.alloc (.cells #[.int .i64 2, .int .i64 kd, .int .i64 i, .int .i64 j, .string nm, .int .i64 n, .int .i64 v.kind, .int .i64 v.n, .string v.s, .int .i64 k.kind, .int .i64 k.n, .string k.s, .int .i64 x.kind, .int .i64 x.n, .string x.s, .slice a l.length cap] 36)).alloc (valObj V.zero)).front2
  simp only [World.size_alloc] at S2
  have HSV : ∀ (W1 : World) (Q : List Res), Sep w Q W1 → SeesV W1 (.slice a l.length cap) l := fun W1 Q T => hin.1.keep fun p u hp => cellBelow hp T.below
  have C := ref_setNum S2 F.G.ok.nk v n hn
  clear S S2 hin hN F HSV
  simp only [OpM.val, V.val] at *
  cases hb : (H.of v).isSome with
  | true =>
    rw [hb] at C
    have C := Lib.hid C
    clear hb
    go_enter Tryz.func7, Tryz.ntmps7
    go_wp2_with fail
    refine C.out.mono ?_
    rintro e w1 ⟨rfl, A3⟩
    obtain ⟨p0, p1, p2, p3, p4, p5⟩ := valBlkO (A3.box 1 rfl)
    simp only [V.zero] at p0 p1 p2
    have hz := blockLt (A3.box 1 rfl)
    replace A3 := Lib.hid A3
    go_wp2
    exact bodyPost_ret (v := .tuple #[.int .i64 1, .agg #[.int .i64 0, .int .i64 0, .string ⟨#[]⟩]]) (by simp [results, Tryz.results7, go_sem, p0, p1, p2]) rfl ⟨rfl, A3.out.shutZ _ _ _⟩
  | false =>
    rw [hb] at C
    have C := Lib.hid C
    clear hb
    go_enter Tryz.func7, Tryz.ntmps7
    go_wp2_with fail
    refine C.out.mono ?_
    rintro e w1 ⟨rfl, A3⟩
    obtain ⟨p0, p1, p2, p3, p4, p5⟩ := valBlkO (A3.box 1 rfl)
    simp only [V.zero] at p0 p1 p2
    have hz := blockLt (A3.box 1 rfl)
    replace A3 := Lib.hid A3
    go_wp2
    exact bodyPost_ret (v := .tuple #[.int .i64 0, .agg #[.int .i64 0, .int .i64 0, .string ⟨#[]⟩]]) (by simp [results, Tryz.results7, go_sem, p0, p1, p2]) rfl ⟨rfl, A3.out.shutZ _ _ _⟩
set_option maxRecDepth 100000 in
set_option maxHeartbeats 1600000 in
theorem doRef_3 (S : Sep w (refR r H :: Rs) W) (F : H.Fit N) (o : OpM) (hd : o.d = 3) (hin : o.In w) (hN : N + o.l.length + 1 ≤ 4000000) : Calls Tryz.prog 7 #[.pointer (some ⟨r, 0, none⟩), o.val] W (RefDone w r (H.setAt o.v o.i o.x) Rs ((H.inItems o.v o.i).toNat) (.agg #[.int .i64 0, .int .i64 0, .string ⟨#[]⟩])) := by
  obtain ⟨d, kd, i, j, nm, n, v, k, x, a, l, cap, hd', hkd, hi, hj, hn, hs⟩ := o
  simp only [OpM.sl, OpM.In] at *
  try simp only at hd
  subst hd
  have S2 := ((S.alloc (.cells #[.int .i64 3, .int .i64 kd, .int .i64 i, .int .i64 j, .string nm, .int .i64 n, .int .i64 v.kind, .int .i64 v.n, .string v.s, .int .i64 k.kind, .int .i64 k.n, .string k.s, .int .i64 x.kind, .int .i64 x.n, .string x.s, .slice a l.length cap] 36)).alloc (valObj V.zero)).front2
  simp only [World.size_alloc] at S2
  have HSV : ∀ (W1 : World) (Q : List Res), Sep w Q W1 → SeesV W1 (.slice a l.length cap) l := fun W1 Q T => hin.1.keep fun p u hp => cellBelow hp T.below
  have C := ref_setAt S2 F.G.ok.nk v i x hi
  clear S S2 hin hN F HSV
  simp only [OpM.val, V.val] at *
  cases hb : H.inItems v i with
  | true =>
    rw [hb] at C
    have C := Lib.hid C
    clear hb
    go_enter Tryz.func7, Tryz.ntmps7
    go_wp2_with fail
    refine C.out.mono ?_
    rintro e w1 ⟨rfl, A3⟩
    obtain ⟨p0, p1, p2, p3, p4, p5⟩ := valBlkO (A3.box 1 rfl)
    simp only [V.zero] at p0 p1 p2
    have hz := blockLt (A3.box 1 rfl)
    replace A3 := Lib.hid A3
    go_wp2
    exact bodyPost_ret (v := .tuple #[.int .i64 1, .agg #[.int .i64 0, .int .i64 0, .string ⟨#[]⟩]]) (by simp [results, Tryz.results7, go_sem, p0, p1, p2]) rfl ⟨rfl, A3.out.shutZ _ _ _⟩
  | false =>
    rw [hb] at C
    have C := Lib.hid C
    clear hb
    go_enter Tryz.func7, Tryz.ntmps7
    go_wp2_with fail
    refine C.out.mono ?_
    rintro e w1 ⟨rfl, A3⟩
    obtain ⟨p0, p1, p2, p3, p4, p5⟩ := valBlkO (A3.box 1 rfl)
    simp only [V.zero] at p0 p1 p2
    have hz := blockLt (A3.box 1 rfl)
    replace A3 := Lib.hid A3
    go_wp2
    exact bodyPost_ret (v := .tuple #[.int .i64 0, .agg #[.int .i64 0, .int .i64 0, .string ⟨#[]⟩]]) (by simp [results, Tryz.results7, go_sem, p0, p1, p2]) rfl ⟨rfl, A3.out.shutZ _ _ _⟩
set_option maxRecDepth 100000 in
set_option maxHeartbeats 1600000 in
theorem doRef_4 (S : Sep w (refR r H :: Rs) W) (F : H.Fit N) (o : OpM) (hd : o.d = 4) (hin : o.In w) (hN : N + o.l.length + 1 ≤ 4000000) : Calls Tryz.prog 7 #[.pointer (some ⟨r, 0, none⟩), o.val] W (RefDone w r (H.replace o.v o.i o.j o.l) Rs ((H.canReplace o.v o.i o.j).toNat) (.agg #[.int .i64 0, .int .i64 0, .string ⟨#[]⟩])) := by
  obtain ⟨d, kd, i, j, nm, n, v, k, x, a, l, cap, hd', hkd, hi, hj, hn, hs⟩ := o
  simp only [OpM.sl, OpM.In] at *
  try simp only at hd
  subst hd
  have S2 := ((S.alloc (.cells #[.int .i64 4, .int .i64 kd, .int .i64 i, .int .i64 j, .string nm, .int .i64 n, .int .i64 v.kind, .int .i64 v.n, .string v.s, .int .i64 k.kind, .int .i64 k.n, .string k.s, .int .i64 x.kind, .int .i64 x.n, .string x.s, .slice a l.length cap] 36)).alloc (valObj V.zero)).front2
  simp only [World.size_alloc] at S2
  have HSV : ∀ (W1 : World) (Q : List Res), Sep w Q W1 → SeesV W1 (.slice a l.length cap) l := fun W1 Q T => hin.1.keep fun p u hp => cellBelow hp T.below
  have C := ref_replace S2 F.G v i j (.slice a l.length cap) l (fun W1 T => HSV W1 _ T) (by omega)
  clear S S2 hin hN F HSV
  simp only [OpM.val, V.val] at *
  cases hb : H.canReplace v i j with
  | true =>
    rw [hb] at C
    have C := Lib.hid C
    clear hb
    go_enter Tryz.func7, Tryz.ntmps7
    go_wp2_with fail
    refine C.out.mono ?_
    rintro e w1 ⟨rfl, A3⟩
    obtain ⟨p0, p1, p2, p3, p4, p5⟩ := valBlkO (A3.box 1 rfl)
    simp only [V.zero] at p0 p1 p2
    have hz := blockLt (A3.box 1 rfl)
    replace A3 := Lib.hid A3
    go_wp2
    exact bodyPost_ret (v := .tuple #[.int .i64 1, .agg #[.int .i64 0, .int .i64 0, .string ⟨#[]⟩]]) (by simp [results, Tryz.results7, go_sem, p0, p1, p2]) rfl ⟨rfl, A3.out.shutZ _ _ _⟩
  | false =>
    rw [hb] at C
    have C := Lib.hid C
    clear hb
    go_enter Tryz.func7, Tryz.ntmps7
    go_wp2_with fail
    refine C.out.mono ?_
    rintro e w1 ⟨rfl, A3⟩
    obtain ⟨p0, p1, p2, p3, p4, p5⟩ := valBlkO (A3.box 1 rfl)
    simp only [V.zero] at p0 p1 p2
    have hz := blockLt (A3.box 1 rfl)
    replace A3 := Lib.hid A3
    go_wp2
    exact bodyPost_ret (v := .tuple #[.int .i64 0, .agg #[.int .i64 0, .int .i64 0, .string ⟨#[]⟩]]) (by simp [results, Tryz.results7, go_sem, p0, p1, p2]) rfl ⟨rfl, A3.out.shutZ _ _ _⟩
set_option maxRecDepth 100000 in
set_option maxHeartbeats 1600000 in
theorem doRef_5 (S : Sep w (refR r H :: Rs) W) (F : H.Fit N) (o : OpM) (hd : o.d = 5) (hin : o.In w) (hN : N + o.l.length + 1 ≤ 4000000) : Calls Tryz.prog 7 #[.pointer (some ⟨r, 0, none⟩), o.val] W (RefDone w r (H.put o.v o.k o.x) Rs ((H.canPut o.v o.k).toNat) (.agg #[.int .i64 0, .int .i64 0, .string ⟨#[]⟩])) := by
  obtain ⟨d, kd, i, j, nm, n, v, k, x, a, l, cap, hd', hkd, hi, hj, hn, hs⟩ := o
  simp only [OpM.sl, OpM.In] at *
  try simp only at hd
  subst hd
  have S2 := ((S.alloc (.cells #[.int .i64 5, .int .i64 kd, .int .i64 i, .int .i64 j, .string nm, .int .i64 n, .int .i64 v.kind, .int .i64 v.n, .string v.s, .int .i64 k.kind, .int .i64 k.n, .string k.s, .int .i64 x.kind, .int .i64 x.n, .string x.s, .slice a l.length cap] 36)).alloc (valObj V.zero)).front2
  simp only [World.size_alloc] at S2
  have HSV : ∀ (W1 : World) (Q : List Res), Sep w Q W1 → SeesV W1 (.slice a l.length cap) l := fun W1 Q T => hin.1.keep fun p u hp => cellBelow hp T.below
  have C := ref_put S2 F.G.ok.nk F.P v k x
  clear S S2 hin hN F HSV
  simp only [OpM.val, V.val] at *
  cases hb : H.canPut v k with
  | true =>
    rw [hb] at C
    have C := Lib.hid C
    clear hb
    go_enter Tryz.func7, Tryz.ntmps7
    go_wp2_with fail
    refine C.out.mono ?_
    rintro e w1 ⟨rfl, A3⟩
    obtain ⟨p0, p1, p2, p3, p4, p5⟩ := valBlkO (A3.box 1 rfl)
    simp only [V.zero] at p0 p1 p2
    have hz := blockLt (A3.box 1 rfl)
    replace A3 := Lib.hid A3
    go_wp2
    exact bodyPost_ret (v := .tuple #[.int .i64 1, .agg #[.int .i64 0, .int .i64 0, .string ⟨#[]⟩]]) (by simp [results, Tryz.results7, go_sem, p0, p1, p2]) rfl ⟨rfl, A3.out.shutZ _ _ _⟩
  | false =>
    rw [hb] at C
    have C := Lib.hid C
    clear hb
    go_enter Tryz.func7, Tryz.ntmps7
    go_wp2_with fail
    refine C.out.mono ?_
    rintro e w1 ⟨rfl, A3⟩
    obtain ⟨p0, p1, p2, p3, p4, p5⟩ := valBlkO (A3.box 1 rfl)
    simp only [V.zero] at p0 p1 p2
    have hz := blockLt (A3.box 1 rfl)
    replace A3 := Lib.hid A3
    go_wp2
    exact bodyPost_ret (v := .tuple #[.int .i64 0, .agg #[.int .i64 0, .int .i64 0, .string ⟨#[]⟩]]) (by simp [results, Tryz.results7, go_sem, p0, p1, p2]) rfl ⟨rfl, A3.out.shutZ _ _ _⟩
set_option maxRecDepth 100000 in
set_option maxHeartbeats 1600000 in
theorem doRef_6 (S : Sep w (refR r H :: Rs) W) (F : H.Fit N) (o : OpM) (hd : o.d = 6) (hin : o.In w) (hN : N + o.l.length + 1 ≤ 4000000) : Calls Tryz.prog 7 #[.pointer (some ⟨r, 0, none⟩), o.val] W (RefDone w r (H.del o.v o.k) Rs ((H.has o.v o.k).toNat) (.agg #[.int .i64 0, .int .i64 0, .string ⟨#[]⟩])) := by
  obtain ⟨d, kd, i, j, nm, n, v, k, x, a, l, cap, hd', hkd, hi, hj, hn, hs⟩ := o
  simp only [OpM.sl, OpM.In] at *
  try simp only at hd
  subst hd
  have S2 := ((S.alloc (.cells #[.int .i64 6, .int .i64 kd, .int .i64 i, .int .i64 j, .string nm, .int .i64 n, .int .i64 v.kind, .int .i64 v.n, .string v.s, .int .i64 k.kind, .int .i64 k.n, .string k.s, .int .i64 x.kind, .int .i64 x.n, .string x.s, .slice a l.length cap] 36)).alloc (valObj V.zero)).front2
  simp only [World.size_alloc] at S2
  have HSV : ∀ (W1 : World) (Q : List Res), Sep w Q W1 → SeesV W1 (.slice a l.length cap) l := fun W1 Q T => hin.1.keep fun p u hp => cellBelow hp T.below
  have C := ref_del S2 F.G.ok.nk F.P v k
  clear S S2 hin hN F HSV
  simp only [OpM.val, V.val] at *
  cases hb : H.has v k with
  | true =>
    rw [hb] at C
    have C := Lib.hid C
    clear hb
    go_enter Tryz.func7, Tryz.ntmps7
    go_wp2_with fail
    refine C.out.mono ?_
    rintro e w1 ⟨rfl, A3⟩
    obtain ⟨p0, p1, p2, p3, p4, p5⟩ := valBlkO (A3.box 1 rfl)
    simp only [V.zero] at p0 p1 p2
    have hz := blockLt (A3.box 1 rfl)
    replace A3 := Lib.hid A3
    go_wp2
    exact bodyPost_ret (v := .tuple #[.int .i64 1, .agg #[.int .i64 0, .int .i64 0, .string ⟨#[]⟩]]) (by simp [results, Tryz.results7, go_sem, p0, p1, p2]) rfl ⟨rfl, A3.out.shutZ _ _ _⟩
  | false =>
    rw [hb] at C
    have C := Lib.hid C
    clear hb
    go_enter Tryz.func7, Tryz.ntmps7
    go_wp2_with fail
    refine C.out.mono ?_
    rintro e w1 ⟨rfl, A3⟩
    obtain ⟨p0, p1, p2, p3, p4, p5⟩ := valBlkO (A3.box 1 rfl)
    simp only [V.zero] at p0 p1 p2
    have hz := blockLt (A3.box 1 rfl)
    replace A3 := Lib.hid A3
    go_wp2
    exact bodyPost_ret (v := .tuple #[.int .i64 0, .agg #[.int .i64 0, .int .i64 0, .string ⟨#[]⟩]]) (by simp [results, Tryz.results7, go_sem, p0, p1, p2]) rfl ⟨rfl, A3.out.shutZ _ _ _⟩
set_option maxRecDepth 100000 in
set_option maxHeartbeats 1600000 in
theorem doRef_1y (S : Sep w (refR r H :: Rs) W) (F : H.Fit N) (o : OpM) (hd : o.d = 1) (hk1 : 1 ≤ o.kd) (hk2 : o.kd ≤ 12) (hin : o.In w) (hN : N + o.l.length + 1 ≤ 4000000) : Calls Tryz.prog 7 #[.pointer (some ⟨r, 0, none⟩), o.val] W (RefDone w r (H.add o.obj0) Rs (0) (.agg #[.int .i64 4, .int .i64 (H.last + 1), .string ⟨#[]⟩])) := by
  obtain ⟨d, kd, i, j, nm, n, v, k, x, a, l, cap, hd', hkd, hi, hj, hn, hs⟩ := o
  simp only [OpM.sl, OpM.In] at *
  try simp only at hd
  subst hd
  have S2 := ((S.alloc (.cells #[.int .i64 1, .int .i64 kd, .int .i64 i, .int .i64 j, .string nm, .int .i64 n, .int .i64 v.kind, .int .i64 v.n, .string v.s, .int .i64 k.kind, .int .i64 k.n, .string k.s, .int .i64 x.kind, .int .i64 x.n, .string x.s, .slice a l.length cap] 36)).alloc (valObj V.zero)).front2
  simp only [World.size_alloc] at S2
  have HSV : ∀ (W1 : World) (Q : List Res), Sep w Q W1 → SeesV W1 (.slice a l.length cap) l := fun W1 Q T => hin.1.keep fun p u hp => cellBelow hp T.below
  have C := Lib.hid (ref_make S2 F.G ⟨kd, nm, n, l, [], hkd, hn, hs⟩ rfl hk1 hk2 (.slice a l.length cap) (fun W1 T => HSV W1 _ T) (by omega) (show l.length ≤ 4000000 by omega))
  clear S S2 hin hN F HSV hk1 hk2
  simp only [OpM.val, V.val] at *
  go_enter Tryz.func7, Tryz.ntmps7
  go_wp2_with fail
  refine C.out.mono ?_
  rintro e w1 ⟨rfl, A3⟩
  obtain ⟨p0, p1, p2, p3, p4, p5⟩ := valBlkO (A3.box 1 rfl)
  simp only [V.zero] at p0 p1 p2
  have hz := blockLt (A3.box 1 rfl)
  replace A3 := Lib.hid A3
  go_wp2
  exact bodyPost_ret (v := .tuple #[.int .i64 0, .agg #[.int .i64 4, .int .i64 (H.last + 1), .string ⟨#[]⟩]]) (by simp [results, Tryz.results7, go_sem, p0, p1, p2]) rfl ⟨rfl, A3.out.shutZ _ _ _⟩
set_option maxRecDepth 100000 in
set_option maxHeartbeats 1600000 in
theorem doRef_1n (S : Sep w (refR r H :: Rs) W) (F : H.Fit N) (o : OpM) (hd : o.d = 1) (hk : o.kd < 1 ∨ 12 < o.kd) (hin : o.In w) (hN : N + o.l.length + 1 ≤ 4000000) : Calls Tryz.prog 7 #[.pointer (some ⟨r, 0, none⟩), o.val] W (RefDone w r (H) Rs (0) (.agg #[.int .i64 0, .int .i64 0, .string ⟨#[]⟩])) := by
  obtain ⟨d, kd, i, j, nm, n, v, k, x, a, l, cap, hd', hkd, hi, hj, hn, hs⟩ := o
  simp only [OpM.sl, OpM.In] at *
  try simp only at hd
  subst hd
  have S2 := ((S.alloc (.cells #[.int .i64 1, .int .i64 kd, .int .i64 i, .int .i64 j, .string nm, .int .i64 n, .int .i64 v.kind, .int .i64 v.n, .string v.s, .int .i64 k.kind, .int .i64 k.n, .string k.s, .int .i64 x.kind, .int .i64 x.n, .string x.s, .slice a l.length cap] 36)).alloc (valObj V.zero)).front2
  simp only [World.size_alloc] at S2
  have HSV : ∀ (W1 : World) (Q : List Res), Sep w Q W1 → SeesV W1 (.slice a l.length cap) l := fun W1 Q T => hin.1.keep fun p u hp => cellBelow hp T.below
  have C := Lib.hid (ref_makeNo S2 kd n nm a l.length cap hk)
  clear S S2 hin hN F HSV hk
  simp only [OpM.val, V.val, V.zero] at C ⊢
  go_enter Tryz.func7, Tryz.ntmps7
  go_wp2_with fail
  refine C.out.mono ?_
  rintro e w1 ⟨rfl, A3⟩
  obtain ⟨p0, p1, p2, p3, p4, p5⟩ := valBlkO (A3.box 1 rfl)
  simp only [V.zero] at p0 p1 p2
  have hz := blockLt (A3.box 1 rfl)
  replace A3 := Lib.hid A3
  go_wp2
  exact bodyPost_ret (v := .tuple #[.int .i64 0, .agg #[.int .i64 0, .int .i64 0, .string ⟨#[]⟩]]) (by simp [results, Tryz.results7, go_sem, p0, p1, p2]) rfl ⟨rfl, A3.out.shutZ _ _ _⟩
set_option maxRecDepth 100000 in
set_option maxHeartbeats 1600000 in
theorem doRef_7 (S : Sep w (refR r H :: Rs) W) (F : H.Fit N) (o : OpM) (hd : o.d = 7) (hin : o.In w) (hN : N + o.l.length + 1 ≤ 4000000) : Calls Tryz.prog 7 #[.pointer (some ⟨r, 0, none⟩), o.val] W (RefDone w r (H.sweep o.l) Rs (((H.objs.length - (H.sweep o.l).objs.length : Nat) : Int)) (.agg #[.int .i64 0, .int .i64 0, .string ⟨#[]⟩])) := by
  obtain ⟨d, kd, i, j, nm, n, v, k, x, a, l, cap, hd', hkd, hi, hj, hn, hs⟩ := o
  simp only [OpM.sl, OpM.In] at *
  try simp only at hd
  subst hd
  have S2 := ((S.alloc (.cells #[.int .i64 7, .int .i64 kd, .int .i64 i, .int .i64 j, .string nm, .int .i64 n, .int .i64 v.kind, .int .i64 v.n, .string v.s, .int .i64 k.kind, .int .i64 k.n, .string k.s, .int .i64 x.kind, .int .i64 x.n, .string x.s, .slice a l.length cap] 36)).alloc (valObj V.zero)).front2
  simp only [World.size_alloc] at S2
  have HSV : ∀ (W1 : World) (Q : List Res), Sep w Q W1 → SeesV W1 (.slice a l.length cap) l := fun W1 Q T => hin.1.keep fun p u hp => cellBelow hp T.below
  have C := Lib.hid (ref_sweep S2 F.G (by omega) a cap l (fun W1 _ T => HSV W1 _ T) (by omega))
  clear S S2 hin hN F HSV
  generalize hS : H.sweep l = X at *
  clear hS
  simp only [OpM.val, V.val] at *
  go_enter Tryz.func7, Tryz.ntmps7
  go_wp2_with fail
  refine C.out.mono ?_
  rintro e w1 ⟨⟨f, rfl, hf⟩, A3⟩
  obtain rfl : f = H.objs.length - X.objs.length := by omega
  clear hf
  obtain ⟨p0, p1, p2, p3, p4, p5⟩ := valBlkO (A3.box 1 rfl)
  simp only [V.zero] at p0 p1 p2
  have hz := blockLt (A3.box 1 rfl)
  replace A3 := Lib.hid A3
  go_wp2
  exact bodyPost_ret (v := .tuple #[.int .i64 ((H.objs.length - X.objs.length : Nat) : Int), .agg #[.int .i64 0, .int .i64 0, .string ⟨#[]⟩]]) (by simp [results, Tryz.results7, go_sem, p0, p1, p2]) rfl ⟨rfl, A3.out.shutZ _ _ _⟩
set_option maxRecDepth 100000 in
set_option maxHeartbeats 1600000 in
theorem doRef_8 (S : Sep w (refR r H :: Rs) W) (F : H.Fit N) (o : OpM) (hd : o.d = 8) (hin : o.In w) (hN : N + o.l.length + 1 ≤ 4000000) : Calls Tryz.prog 7 #[.pointer (some ⟨r, 0, none⟩), o.val] W (RefDone w r (H.freeAll (o.l.map (·.n))) Rs (H.freed (o.l.map (·.n))) (.agg #[.int .i64 0, .int .i64 0, .string ⟨#[]⟩])) := by
  obtain ⟨d, kd, i, j, nm, n, v, k, x, a, l, cap, hd', hkd, hi, hj, hn, hs⟩ := o
  simp only [OpM.sl, OpM.In] at *
  try simp only at hd
  subst hd
  have S2 := ((S.alloc (.cells #[.int .i64 8, .int .i64 kd, .int .i64 i, .int .i64 j, .string nm, .int .i64 n, .int .i64 v.kind, .int .i64 v.n, .string v.s, .int .i64 k.kind, .int .i64 k.n, .string k.s, .int .i64 x.kind, .int .i64 x.n, .string x.s, .slice a l.length cap] 36)).alloc (valObj V.zero)).front2
  simp only [World.size_alloc] at S2
  have HSV : ∀ (W1 : World) (Q : List Res), Sep w Q W1 → SeesV W1 (.slice a l.length cap) l := fun W1 Q T => hin.1.keep fun p u hp => cellBelow hp T.below
  have CN := Lib.hid (numbers_ok _ (.slice a l.length cap) l (HSV _ _ S2) (by omega))
  have hok : ∀ n ∈ l.map (·.n), okI n := fun n hn => by obtain ⟨x, _, rfl⟩ := List.mem_map.1 hn; exact x.hn
  have hnl : (l.map (·.n)).length ≤ 4000000 := by rw [List.length_map]; omega
  have HS2 := Lib.hid S2
  have HG := Lib.hid (And.intro F.G (And.intro hN hnl))
  clear S S2 hin hN F HSV hnl
  generalize hz : valObj V.zero = zo at *
  simp only [V.zero, valObj] at hz
  subst hz
  simp only [OpM.val, V.val] at *
  generalize l.map (·.n) = ns at *
  go_enter Tryz.func7, Tryz.ntmps7
  go_wp2_with fail
  refine CN.out.mono ?_
  rintro e w1 ⟨rv, rfl, R⟩
  obtain ⟨na, nc, rfl⟩ := R.1.form
  have A5 := ((HS2.out).addRow R.2.2 R.1 R.2.1).swap
  have C := Lib.hid (ref_free A5 HG.out.1 (by have := HG.out.2.1; omega) na nc ns (fun W1 H' T => SeesN.of_slIs (T.row 1 rfl)) hok HG.out.2.2)
  clear R A5 hok CN
  go_wp2_with fail
  refine C.out.mono ?_
  rintro e w2 ⟨rfl, A4⟩
  have A3 := A4.sub (.cons_cons _ (.cons _ (List.Sublist.refl _)))
  clear A4
  obtain ⟨p0, p1, p2, p3, p4, p5⟩ := valBlkO (x := V.zero) (A3.box 1 rfl)
  simp only [V.zero] at p0 p1 p2
  have hz := blockLt (A3.box 1 rfl)
  replace A3 := Lib.hid A3
  go_wp2
  exact bodyPost_ret (v := .tuple #[.int .i64 (H.freed ns), .agg #[.int .i64 0, .int .i64 0, .string ⟨#[]⟩]]) (by simp [results, Tryz.results7, go_sem, p0, p1, p2]) rfl ⟨rfl, Sep.shutZ A3.out _ _ _⟩
set_option maxRecDepth 100000 in
set_option maxHeartbeats 1600000 in
theorem doRef_0 (S : Sep w (refR r H :: Rs) W) (F : H.Fit N) (o : OpM) (hd : ¬ (1 ≤ o.d ∧ o.d ≤ 8)) (hin : o.In w) (hN : N + o.l.length + 1 ≤ 4000000) : Calls Tryz.prog 7 #[.pointer (some ⟨r, 0, none⟩), o.val] W (RefDone w r (H) Rs (0) (.agg #[.int .i64 0, .int .i64 0, .string ⟨#[]⟩])) := by
  obtain ⟨d, kd, i, j, nm, n, v, k, x, a, l, cap, hd', hkd, hi, hj, hn, hs⟩ := o
  simp only [OpM.sl, OpM.In] at *
  try simp only at hd
  have S2 := ((S.alloc (.cells #[.int .i64 d, .int .i64 kd, .int .i64 i, .int .i64 j, .string nm, .int .i64 n, .int .i64 v.kind, .int .i64 v.n, .string v.s, .int .i64 k.kind, .int .i64 k.n, .string k.s, .int .i64 x.kind, .int .i64 x.n, .string x.s, .slice a l.length cap] 36)).alloc (valObj V.zero)).front2
  simp only [World.size_alloc] at S2
  have HSV : ∀ (W1 : World) (Q : List Res), Sep w Q W1 → SeesV W1 (.slice a l.length cap) l := fun W1 Q T => hin.1.keep fun p u hp => cellBelow hp T.below
  have e1 : (d == 1) = false := by simp; omega
  have e2 : (d == 2) = false := by simp; omega
  have e3 : (d == 3) = false := by simp; omega
  have e4 : (d == 4) = false := by simp; omega
  have e5 : (d == 5) = false := by simp; omega
  have e6 : (d == 6) = false := by simp; omega
  have e7 : (d == 7) = false := by simp; omega
  have e8 : (d == 8) = false := by simp; omega
  have HS2 := Lib.hid S2
  simp only [OpM.val, V.val]
  clear S S2 hin hN F HSV hd hd' hkd hi hj hn hs
  generalize hz : valObj V.zero = zo at *
  simp only [V.zero, valObj] at hz
  subst hz
  try simp only [OpM.val, V.val] at *
  go_enter Tryz.func7, Tryz.ntmps7
  go_wp2
  refine bodyPost_ret (v := .tuple #[.int .i64 0, .agg #[.int .i64 0, .int .i64 0, .string ⟨#[]⟩]]) (by simp [results, Tryz.results7, go_sem]) rfl ⟨rfl, ?_⟩
  first | exact HS2.out.sub (.cons_cons _ (.cons _ (.cons _ (List.Sublist.refl _)))) | exact Sep.shutZ HS2.out _ _ _
theorem doRef_ok (S : Sep w (refR r H :: Rs) W) (F : H.Fit N) (o : OpM) (hin : o.In w) (hN : N + o.l.length + 1 ≤ 4000000) : Calls Tryz.prog 7 #[.pointer (some ⟨r, 0, none⟩), o.val] W (RefDone w r (H.doo o) Rs (H.doN o) (H.doV o)) := by
  by_cases h0 : 1 ≤ o.d ∧ o.d ≤ 8
  · obtain e | e | e | e | e | e | e | e : o.d = 1 ∨ o.d = 2 ∨ o.d = 3 ∨ o.d = 4 ∨ o.d = 5 ∨ o.d = 6 ∨ o.d = 7 ∨ o.d = 8 := by omega
    · by_cases hk : 1 ≤ o.kd ∧ o.kd ≤ 12
      · have := doRef_1y S F o e hk.1 hk.2 hin hN
        simpa [HeapM.doo, HeapM.doN, HeapM.doV, HeapM.doOk, e, hk] using this
      · have := doRef_1n S F o e (by omega) hin hN
        simpa [HeapM.doo, HeapM.doN, HeapM.doV, HeapM.doOk, e, hk] using this
    · have := doRef_2 S F o e hin hN
      simpa [HeapM.doo, HeapM.doN, HeapM.doV, HeapM.doOk, e] using this
    · have := doRef_3 S F o e hin hN
      simpa [HeapM.doo, HeapM.doN, HeapM.doV, HeapM.doOk, e] using this
    · have := doRef_4 S F o e hin hN
      simpa [HeapM.doo, HeapM.doN, HeapM.doV, HeapM.doOk, e] using this
    · have := doRef_5 S F o e hin hN
      simpa [HeapM.doo, HeapM.doN, HeapM.doV, HeapM.doOk, e] using this
    · have := doRef_6 S F o e hin hN
      simpa [HeapM.doo, HeapM.doN, HeapM.doV, HeapM.doOk, e] using this
    · have := doRef_7 S F o e hin hN
      simpa [HeapM.doo, HeapM.doN, HeapM.doV, HeapM.doOk, e] using this
    · have := doRef_8 S F o e hin hN
      simpa [HeapM.doo, HeapM.doN, HeapM.doV, HeapM.doOk, e] using this
  · have := doRef_0 S F o h0 hin hN
    have e1 : ¬ o.d = 1 := by omega
    have e2 : ¬ o.d = 2 := by omega
    have e3 : ¬ o.d = 3 := by omega
    have e4 : ¬ o.d = 4 := by omega
    have e5 : ¬ o.d = 5 := by omega
    have e6 : ¬ o.d = 6 := by omega
    have e7 : ¬ o.d = 7 := by omega
    have e8 : ¬ o.d = 8 := by omega
    simpa [HeapM.doo, HeapM.doN, HeapM.doV, HeapM.doOk, e1, e2, e3, e4, e5, e6, e7, e8] using this
end
theorem HeapM.Fit.doo {H : HeapM} {N : Nat} (h : H.Fit N) (o : OpM) : (H.doo o).Fit (N + o.l.length + 2) := by
  unfold HeapM.doo
  split
  · split
    · rename_i hk; exact (h.add _ hk rfl).more (by simp [OpM.obj0])
    · exact h.more (by omega)
  split
  · exact (h.setNum _ _ _).more (by omega)
  split
  · exact (h.setAt _ _ _).more (by omega)
  split
  · exact (h.replace _ _ _ _).more (by omega)
  split
  · exact (h.put _ _ _).more (by omega)
  split
  · exact (h.del _ _).more (by omega)
  split
  · exact (h.sweep _).more (by omega)
  split
  · exact (h.freeAll _).more (by omega)
  · exact h.more (by omega)
theorem madeM_fit (l : List OpM) : (madeM l).Fit (opsW l) := by
  have : ∀ (l : List OpM) (H : HeapM) (N : Nat), H.Fit N → (l.foldl HeapM.doo H).Fit (N + opsW l) := by
    intro l
    induction l with
    | nil => intro H N h; exact h
    | cons x r ih =>
      intro H N h
      exact (ih (H.doo x) _ (h.doo x)).more (by rw [opsW_cons]; omega)
  exact (this l ⟨[], 0⟩ 0 fit_empty).more (by omega)
end Go.Proofs.YtoancpjlkhijiaaGreat
