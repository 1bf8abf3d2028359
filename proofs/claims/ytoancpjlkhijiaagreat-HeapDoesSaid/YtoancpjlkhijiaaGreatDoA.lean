import Derived.Test.YtoancpjlkhijiaaGreatOp
import Derived.Test.YtoancpjlkhijiaaGreatGood
import Derived.Test.YtoancpjlkhijiaaGreatNumbers
/- What the law's do does to the plain heap. -/
namespace Go.Proofs.YtoancpjlkhijiaaGreat
set_option linter.unusedSimpArgs false
open Go.RowKit
set_option linter.unusedVariables false
def OpM.obj0 (o : OpM) : ObjM := ⟨o.kd, o.name, o.n, o.l, [], o.hkd, o.hn, o.hs⟩
noncomputable def HeapM.doo (H : HeapM) (o : OpM) : HeapM :=
  if o.d = 1 then (if 1 ≤ o.kd ∧ o.kd ≤ 12 then H.add o.obj0 else H)
  else if o.d = 2 then H.setNum o.v o.n o.hn
  else if o.d = 3 then H.setAt o.v o.i o.x
  else if o.d = 4 then H.replace o.v o.i o.j o.l
  else if o.d = 5 then H.put o.v o.k o.x
  else if o.d = 6 then H.del o.v o.k
  else if o.d = 7 then H.sweep o.l
  else if o.d = 8 then H.freeAll (o.l.map (·.n))
  else H
def HeapM.doOk (H : HeapM) (o : OpM) : Bool :=
  if o.d = 2 then (H.of o.v).isSome else if o.d = 3 then H.inItems o.v o.i else if o.d = 4 then H.canReplace o.v o.i o.j else if o.d = 5 then H.canPut o.v o.k else if o.d = 6 then H.has o.v o.k else false
noncomputable def HeapM.doN (H : HeapM) (o : OpM) : Int :=
  if o.d = 7 then ((H.objs.length - (H.sweep o.l).objs.length : Nat) : Int) else if o.d = 8 then H.freed (o.l.map (·.n)) else (H.doOk o).toNat
def HeapM.doV (H : HeapM) (o : OpM) : Value :=
  if o.d = 1 ∧ 1 ≤ o.kd ∧ o.kd ≤ 12 then .agg #[.int .i64 4, .int .i64 (H.last + 1), .string ⟨#[]⟩] else .agg #[.int .i64 0, .int .i64 0, .string ⟨#[]⟩]
theorem HeapM.Good.doo {H : HeapM} {N : Nat} (h : H.Good N) (o : OpM) : (H.doo o).Good (N + o.l.length + 2) := by
  unfold HeapM.doo
  split
  · split
    · exact (h.add _).more (by simp [ObjM.vals, OpM.obj0])
    · exact h.more (by omega)
  split
  · exact (h.setNum _ _ _).more (by omega)
  split
  · exact (h.setAt _ _ _).more (by omega)
  split
  · exact (h.replace _ _ _ _).more (by omega)
  split
  · exact (h.put _ _ _).more (by omega)
  split
  · exact (h.del _ _).more (by omega)
  split
  · exact (h.sweep _).more (by omega)
  split
  · exact (h.freeAll _).more (by omega)
  · exact h.more (by omega)
end Go.Proofs.YtoancpjlkhijiaaGreat
/- The law's do at a heap. -/
namespace Go.Proofs.YtoancpjlkhijiaaGreat
set_option linter.unusedSimpArgs false
open Go.RowKit
set_option linter.unusedVariables false
section
variable {w W : World} {h : Nat} {H : HeapM} {L : List (Nat × Obj)} {N : Nat}
/-- The two boxes of do are left behind. -/
theorem HAt.shut2 (A : HAt w h H L W) {o z : Obj} {H' : HeapM} {w1 W' : World} (A3 : HAt w h H' ((W.heap.size + 1, z) :: (W.heap.size, o) :: L) w1) (ho : Outside [W.heap.size + 1] w1 W') : HAt w h H' L W' := by
  have h0 := A.below.size
  refine HAt.beside A3 ho (fun q hq => ?_) (fun p hp => ?_)
  · have := List.mem_singleton.1 hq; subst this
    exact .inl ⟨by omega, z, by simp⟩
  · have := A.lt p hp
    exact .inl ⟨by simp [hp], by simp; omega⟩
def DoAt (w : World) (h : Nat) (H' : HeapM) (L : List (Nat × Obj)) (n : Int) (v : Value) (e : Ending) (W' : World) : Prop := e = .returned (.tuple #[.int .i64 n, v]) ∧ HAt w h H' L W'
set_option maxRecDepth 100000 in
set_option maxHeartbeats 1600000 in
theorem do_2 (A : HAt w h H L W) (G : H.Good N) (o : OpM) (hd : o.d = 2) (hin : SeesV W o.sl o.l) (ha : Arg w L o.sl) (hN : N + o.l.length + 1 ≤ 4000000) : Calls Tryz.prog 6 #[.pointer (some ⟨h, 0, none⟩), o.val] W (DoAt w h (H.setNum o.v o.n o.hn) L (((H.of o.v).isSome).toNat) (.agg #[.int .i64 0, .int .i64 0, .string ⟨#[]⟩])) := by
  obtain ⟨d, kd, i, j, nm, n, v, k, x, a, l, cap, hd', hkd, hi, hj, hn, hs⟩ := o
  simp only [OpM.sl] at *
  try simp only at hd
  subst hd
  have A2 := (A.alloc (.cells #[.int .i64 2, .int .i64 kd, .int .i64 i, .int .i64 j, .string nm, .int .i64 n, .int .i64 v.kind, .int .i64 v.n, .string v.s, .int .i64 k.kind, .int .i64 k.n, .string k.s, .int .i64 x.kind, .int .i64 x.n, .string x.s, .slice a l.length cap] 36)).alloc (.cells #[.int .i64 0, .int .i64 0, .string ⟨#[]⟩] 31)
  simp only [World.size_alloc] at A2
  have C := A2.setNum v n hn
  have HA := Lib.hid A
  clear A A2 hin ha hN G
  simp only [OpM.val, V.val] at *
  cases hb : (H.of v).isSome with
  | true =>
    rw [hb] at C
    have C := Lib.hid C
    clear hb
    go_enter Tryz.func6, Tryz.ntmps6
    go_wp2_with fail
    refine C.out.mono ?_
    rintro e w1 ⟨rfl, A3⟩
    obtain ⟨p0, p1, p2, p3, p4, p5⟩ := valBlk (A3.box (q := W.heap.size + 1) List.mem_cons_self)
    have hz := A3.lt _ List.mem_cons_self
    replace A3 := Lib.hid A3
    go_wp2
    exact bodyPost_ret (v := .tuple #[.int .i64 1, .agg #[.int .i64 0, .int .i64 0, .string ⟨#[]⟩]]) (by simp [results, Tryz.results6, go_sem, p0, p1, p2]) rfl ⟨rfl, HA.out.shut2 A3.out (outside3 _ _ _ _ _)⟩
  | false =>
    rw [hb] at C
    have C := Lib.hid C
    clear hb
    go_enter Tryz.func6, Tryz.ntmps6
    go_wp2_with fail
    refine C.out.mono ?_
    rintro e w1 ⟨rfl, A3⟩
    obtain ⟨p0, p1, p2, p3, p4, p5⟩ := valBlk (A3.box (q := W.heap.size + 1) List.mem_cons_self)
    have hz := A3.lt _ List.mem_cons_self
    replace A3 := Lib.hid A3
    go_wp2
    exact bodyPost_ret (v := .tuple #[.int .i64 0, .agg #[.int .i64 0, .int .i64 0, .string ⟨#[]⟩]]) (by simp [results, Tryz.results6, go_sem, p0, p1, p2]) rfl ⟨rfl, HA.out.shut2 A3.out (outside3 _ _ _ _ _)⟩
set_option maxRecDepth 100000 in
set_option maxHeartbeats 1600000 in
theorem do_3 (A : HAt w h H L W) (G : H.Good N) (o : OpM) (hd : o.d = 3) (hin : SeesV W o.sl o.l) (ha : Arg w L o.sl) (hN : N + o.l.length + 1 ≤ 4000000) : Calls Tryz.prog 6 #[.pointer (some ⟨h, 0, none⟩), o.val] W (DoAt w h (H.setAt o.v o.i o.x) L ((H.inItems o.v o.i).toNat) (.agg #[.int .i64 0, .int .i64 0, .string ⟨#[]⟩])) := by
  obtain ⟨d, kd, i, j, nm, n, v, k, x, a, l, cap, hd', hkd, hi, hj, hn, hs⟩ := o
  simp only [OpM.sl] at *
  try simp only at hd
  subst hd
  have A2 := (A.alloc (.cells #[.int .i64 3, .int .i64 kd, .int .i64 i, .int .i64 j, .string nm, .int .i64 n, .int .i64 v.kind, .int .i64 v.n, .string v.s, .int .i64 k.kind, .int .i64 k.n, .string k.s, .int .i64 x.kind, .int .i64 x.n, .string x.s, .slice a l.length cap] 36)).alloc (.cells #[.int .i64 0, .int .i64 0, .string ⟨#[]⟩] 31)
  simp only [World.size_alloc] at A2
  have C := A2.setAt v i x hi
  have HA := Lib.hid A
  clear A A2 hin ha hN G
  simp only [OpM.val, V.val] at *
  cases hb : H.inItems v i with
  | true =>
    rw [hb] at C
    have C := Lib.hid C
    clear hb
    go_enter Tryz.func6, Tryz.ntmps6
    go_wp2_with fail
    refine C.out.mono ?_
    rintro e w1 ⟨rfl, A3⟩
    obtain ⟨p0, p1, p2, p3, p4, p5⟩ := valBlk (A3.box (q := W.heap.size + 1) List.mem_cons_self)
    have hz := A3.lt _ List.mem_cons_self
    replace A3 := Lib.hid A3
    go_wp2
    exact bodyPost_ret (v := .tuple #[.int .i64 1, .agg #[.int .i64 0, .int .i64 0, .string ⟨#[]⟩]]) (by simp [results, Tryz.results6, go_sem, p0, p1, p2]) rfl ⟨rfl, HA.out.shut2 A3.out (outside3 _ _ _ _ _)⟩
  | false =>
    rw [hb] at C
    have C := Lib.hid C
    clear hb
    go_enter Tryz.func6, Tryz.ntmps6
    go_wp2_with fail
    refine C.out.mono ?_
    rintro e w1 ⟨rfl, A3⟩
    obtain ⟨p0, p1, p2, p3, p4, p5⟩ := valBlk (A3.box (q := W.heap.size + 1) List.mem_cons_self)
    have hz := A3.lt _ List.mem_cons_self
    replace A3 := Lib.hid A3
    go_wp2
    exact bodyPost_ret (v := .tuple #[.int .i64 0, .agg #[.int .i64 0, .int .i64 0, .string ⟨#[]⟩]]) (by simp [results, Tryz.results6, go_sem, p0, p1, p2]) rfl ⟨rfl, HA.out.shut2 A3.out (outside3 _ _ _ _ _)⟩
set_option maxRecDepth 100000 in
set_option maxHeartbeats 1600000 in
theorem do_4 (A : HAt w h H L W) (G : H.Good N) (o : OpM) (hd : o.d = 4) (hin : SeesV W o.sl o.l) (ha : Arg w L o.sl) (hN : N + o.l.length + 1 ≤ 4000000) : Calls Tryz.prog 6 #[.pointer (some ⟨h, 0, none⟩), o.val] W (DoAt w h (H.replace o.v o.i o.j o.l) L ((H.canReplace o.v o.i o.j).toNat) (.agg #[.int .i64 0, .int .i64 0, .string ⟨#[]⟩])) := by
  obtain ⟨d, kd, i, j, nm, n, v, k, x, a, l, cap, hd', hkd, hi, hj, hn, hs⟩ := o
  simp only [OpM.sl] at *
  try simp only at hd
  subst hd
  have A2 := (A.alloc (.cells #[.int .i64 4, .int .i64 kd, .int .i64 i, .int .i64 j, .string nm, .int .i64 n, .int .i64 v.kind, .int .i64 v.n, .string v.s, .int .i64 k.kind, .int .i64 k.n, .string k.s, .int .i64 x.kind, .int .i64 x.n, .string x.s, .slice a l.length cap] 36)).alloc (.cells #[.int .i64 0, .int .i64 0, .string ⟨#[]⟩] 31)
  simp only [World.size_alloc] at A2
  have C := A2.replace G v i j (.slice a l.length cap) l (hin.keep fun p u hp => cellAlloc (cellAlloc hp _) _) (by omega)
  have HA := Lib.hid A
  clear A A2 hin ha hN G
  simp only [OpM.val, V.val] at *
  cases hb : H.canReplace v i j with
  | true =>
    rw [hb] at C
    have C := Lib.hid C
    clear hb
    go_enter Tryz.func6, Tryz.ntmps6
    go_wp2_with fail
    refine C.out.mono ?_
    rintro e w1 ⟨rfl, A3⟩
    obtain ⟨p0, p1, p2, p3, p4, p5⟩ := valBlk (A3.box (q := W.heap.size + 1) List.mem_cons_self)
    have hz := A3.lt _ List.mem_cons_self
    replace A3 := Lib.hid A3
    go_wp2
    exact bodyPost_ret (v := .tuple #[.int .i64 1, .agg #[.int .i64 0, .int .i64 0, .string ⟨#[]⟩]]) (by simp [results, Tryz.results6, go_sem, p0, p1, p2]) rfl ⟨rfl, HA.out.shut2 A3.out (outside3 _ _ _ _ _)⟩
  | false =>
    rw [hb] at C
    have C := Lib.hid C
    clear hb
    go_enter Tryz.func6, Tryz.ntmps6
    go_wp2_with fail
    refine C.out.mono ?_
    rintro e w1 ⟨rfl, A3⟩
    obtain ⟨p0, p1, p2, p3, p4, p5⟩ := valBlk (A3.box (q := W.heap.size + 1) List.mem_cons_self)
    have hz := A3.lt _ List.mem_cons_self
    replace A3 := Lib.hid A3
    go_wp2
    exact bodyPost_ret (v := .tuple #[.int .i64 0, .agg #[.int .i64 0, .int .i64 0, .string ⟨#[]⟩]]) (by simp [results, Tryz.results6, go_sem, p0, p1, p2]) rfl ⟨rfl, HA.out.shut2 A3.out (outside3 _ _ _ _ _)⟩
set_option maxRecDepth 100000 in
set_option maxHeartbeats 1600000 in
theorem do_5 (A : HAt w h H L W) (G : H.Good N) (o : OpM) (hd : o.d = 5) (hin : SeesV W o.sl o.l) (ha : Arg w L o.sl) (hN : N + o.l.length + 1 ≤ 4000000) : Calls Tryz.prog 6 #[.pointer (some ⟨h, 0, none⟩), o.val] W (DoAt w h (H.put o.v o.k o.x) L ((H.canPut o.v o.k).toNat) (.agg #[.int .i64 0, .int .i64 0, .string ⟨#[]⟩])) := by
  obtain ⟨d, kd, i, j, nm, n, v, k, x, a, l, cap, hd', hkd, hi, hj, hn, hs⟩ := o
  simp only [OpM.sl] at *
  try simp only at hd
  subst hd
  have A2 := (A.alloc (.cells #[.int .i64 5, .int .i64 kd, .int .i64 i, .int .i64 j, .string nm, .int .i64 n, .int .i64 v.kind, .int .i64 v.n, .string v.s, .int .i64 k.kind, .int .i64 k.n, .string k.s, .int .i64 x.kind, .int .i64 x.n, .string x.s, .slice a l.length cap] 36)).alloc (.cells #[.int .i64 0, .int .i64 0, .string ⟨#[]⟩] 31)
  simp only [World.size_alloc] at A2
  have C := A2.put v k x
  have HA := Lib.hid A
  clear A A2 hin ha hN G
  simp only [OpM.val, V.val] at *
  cases hb : H.canPut v k with
  | true =>
    rw [hb] at C
    have C := Lib.hid C
    clear hb
    go_enter Tryz.func6, Tryz.ntmps6
    go_wp2_with fail
    refine C.out.mono ?_
    rintro e w1 ⟨rfl, A3⟩
    obtain ⟨p0, p1, p2, p3, p4, p5⟩ := valBlk (A3.box (q := W.heap.size + 1) List.mem_cons_self)
    have hz := A3.lt _ List.mem_cons_self
    replace A3 := Lib.hid A3
    go_wp2
    exact bodyPost_ret (v := .tuple #[.int .i64 1, .agg #[.int .i64 0, .int .i64 0, .string ⟨#[]⟩]]) (by simp [results, Tryz.results6, go_sem, p0, p1, p2]) rfl ⟨rfl, HA.out.shut2 A3.out (outside3 _ _ _ _ _)⟩
  | false =>
    rw [hb] at C
    have C := Lib.hid C
    clear hb
    go_enter Tryz.func6, Tryz.ntmps6
    go_wp2_with fail
    refine C.out.mono ?_
    rintro e w1 ⟨rfl, A3⟩
    obtain ⟨p0, p1, p2, p3, p4, p5⟩ := valBlk (A3.box (q := W.heap.size + 1) List.mem_cons_self)
    have hz := A3.lt _ List.mem_cons_self
    replace A3 := Lib.hid A3
    go_wp2
    exact bodyPost_ret (v := .tuple #[.int .i64 0, .agg #[.int .i64 0, .int .i64 0, .string ⟨#[]⟩]]) (by simp [results, Tryz.results6, go_sem, p0, p1, p2]) rfl ⟨rfl, HA.out.shut2 A3.out (outside3 _ _ _ _ _)⟩
set_option maxRecDepth 100000 in
set_option maxHeartbeats 1600000 in
theorem do_6 (A : HAt w h H L W) (G : H.Good N) (o : OpM) (hd : o.d = 6) (hin : SeesV W o.sl o.l) (ha : Arg w L o.sl) (hN : N + o.l.length + 1 ≤ 4000000) : Calls Tryz.prog 6 #[.pointer (some ⟨h, 0, none⟩), o.val] W (DoAt w h (H.del o.v o.k) L ((H.has o.v o.k).toNat) (.agg #[.int .i64 0, .int .i64 0, .string ⟨#[]⟩])) := by
  obtain ⟨d, kd, i, j, nm, n, v, k, x, a, l, cap, hd', hkd, hi, hj, hn, hs⟩ := o
  simp only [OpM.sl] at *
  try simp only at hd
  subst hd
  have A2 := (A.alloc (.cells #[.int .i64 6, .int .i64 kd, .int .i64 i, .int .i64 j, .string nm, .int .i64 n, .int .i64 v.kind, .int .i64 v.n, .string v.s, .int .i64 k.kind, .int .i64 k.n, .string k.s, .int .i64 x.kind, .int .i64 x.n, .string x.s, .slice a l.length cap] 36)).alloc (.cells #[.int .i64 0, .int .i64 0, .string ⟨#[]⟩] 31)
  simp only [World.size_alloc] at A2
  have C := A2.del v k
  have HA := Lib.hid A
  clear A A2 hin ha hN G
  simp only [OpM.val, V.val] at *
  cases hb : H.has v k with
  | true =>
    rw [hb] at C
    have C := Lib.hid C
    clear hb
    go_enter Tryz.func6, Tryz.ntmps6
    go_wp2_with fail
    refine C.out.mono ?_
    rintro e w1 ⟨rfl, A3⟩
    obtain ⟨p0, p1, p2, p3, p4, p5⟩ := valBlk (A3.box (q := W.heap.size + 1) List.mem_cons_self)
    have hz := A3.lt _ List.mem_cons_self
    replace A3 := Lib.hid A3
    go_wp2
    exact bodyPost_ret (v := .tuple #[.int .i64 1, .agg #[.int .i64 0, .int .i64 0, .string ⟨#[]⟩]]) (by simp [results, Tryz.results6, go_sem, p0, p1, p2]) rfl ⟨rfl, HA.out.shut2 A3.out (outside3 _ _ _ _ _)⟩
  | false =>
    rw [hb] at C
    have C := Lib.hid C
    clear hb
    go_enter Tryz.func6, Tryz.ntmps6
    go_wp2_with fail
    refine C.out.mono ?_
    rintro e w1 ⟨rfl, A3⟩
    obtain ⟨p0, p1, p2, p3, p4, p5⟩ := valBlk (A3.box (q := W.heap.size + 1) List.mem_cons_self)
    have hz := A3.lt _ List.mem_cons_self
    replace A3 := Lib.hid A3
    go_wp2
    exact bodyPost_ret (v := .tuple #[.int .i64 0, .agg #[.int .i64 0, .int .i64 0, .string ⟨#[]⟩]]) (by simp [results, Tryz.results6, go_sem, p0, p1, p2]) rfl ⟨rfl, HA.out.shut2 A3.out (outside3 _ _ _ _ _)⟩
end
end Go.Proofs.YtoancpjlkhijiaaGreat
/- The law's do at a heap: the rest. -/
namespace Go.Proofs.YtoancpjlkhijiaaGreat
set_option linter.unusedSimpArgs false
open Go.RowKit
set_option linter.unusedVariables false
section
variable {w W : World} {h : Nat} {H : HeapM} {L : List (Nat × Obj)} {N : Nat}
set_option maxRecDepth 100000 in
set_option maxHeartbeats 1600000 in
theorem do_1y (A : HAt w h H L W) (G : H.Good N) (o : OpM) (hd : o.d = 1) (hin : SeesV W o.sl o.l) (ha : Arg w L o.sl) (hN : N + o.l.length + 1 ≤ 4000000) (hk1 : 1 ≤ o.kd) (hk2 : o.kd ≤ 12) : Calls Tryz.prog 6 #[.pointer (some ⟨h, 0, none⟩), o.val] W (DoAt w h (H.add o.obj0) L (0) (.agg #[.int .i64 4, .int .i64 (H.last + 1), .string ⟨#[]⟩])) := by
  obtain ⟨d, kd, i, j, nm, n, v, k, x, a, l, cap, hd', hkd, hi, hj, hn, hs⟩ := o
  simp only [OpM.sl] at *
  try simp only at hd
  subst hd
  have A2 := (A.alloc (.cells #[.int .i64 1, .int .i64 kd, .int .i64 i, .int .i64 j, .string nm, .int .i64 n, .int .i64 v.kind, .int .i64 v.n, .string v.s, .int .i64 k.kind, .int .i64 k.n, .string k.s, .int .i64 x.kind, .int .i64 x.n, .string x.s, .slice a l.length cap] 36)).alloc (.cells #[.int .i64 0, .int .i64 0, .string ⟨#[]⟩] 31)
  simp only [World.size_alloc] at A2
  have C := Lib.hid (A2.make G (by omega) ⟨kd, nm, n, l, [], hkd, hn, hs⟩ (.slice a l.length cap) (hin.keep fun p u hp => cellAlloc (cellAlloc hp _) _) (show l.length ≤ 4194304 by omega) rfl hk1 hk2)
  have HA := Lib.hid A
  clear A A2 hin ha hN G hk1 hk2
  simp only [OpM.val, V.val] at *
  go_enter Tryz.func6, Tryz.ntmps6
  go_wp2_with fail
  refine C.out.mono ?_
  rintro e w1 ⟨rfl, A3⟩
  obtain ⟨p0, p1, p2, p3, p4, p5⟩ := valBlk (A3.box (q := W.heap.size + 1) List.mem_cons_self)
  have hz := A3.lt _ List.mem_cons_self
  replace A3 := Lib.hid A3
  go_wp2
  exact bodyPost_ret (v := .tuple #[.int .i64 0, .agg #[.int .i64 4, .int .i64 (H.last + 1), .string ⟨#[]⟩]]) (by simp [results, Tryz.results6, go_sem, p0, p1, p2]) rfl ⟨rfl, HA.out.shut2 A3.out (outside3 _ _ _ _ _)⟩
set_option maxRecDepth 100000 in
set_option maxHeartbeats 1600000 in
theorem do_1n (A : HAt w h H L W) (G : H.Good N) (o : OpM) (hd : o.d = 1) (hin : SeesV W o.sl o.l) (ha : Arg w L o.sl) (hN : N + o.l.length + 1 ≤ 4000000) (hk : o.kd < 1 ∨ 12 < o.kd) : Calls Tryz.prog 6 #[.pointer (some ⟨h, 0, none⟩), o.val] W (DoAt w h (H) L (0) (.agg #[.int .i64 0, .int .i64 0, .string ⟨#[]⟩])) := by
  obtain ⟨d, kd, i, j, nm, n, v, k, x, a, l, cap, hd', hkd, hi, hj, hn, hs⟩ := o
  simp only [OpM.sl] at *
  try simp only at hd
  subst hd
  have A2 := (A.alloc (.cells #[.int .i64 1, .int .i64 kd, .int .i64 i, .int .i64 j, .string nm, .int .i64 n, .int .i64 v.kind, .int .i64 v.n, .string v.s, .int .i64 k.kind, .int .i64 k.n, .string k.s, .int .i64 x.kind, .int .i64 x.n, .string x.s, .slice a l.length cap] 36)).alloc (.cells #[.int .i64 0, .int .i64 0, .string ⟨#[]⟩] 31)
  simp only [World.size_alloc] at A2
  have C := Lib.hid (A2.makeNo kd n nm a l.length cap hk)
  have HA := Lib.hid A
  clear A A2 hin ha hN G hk
  simp only [OpM.val, V.val, V.zero] at *
  go_enter Tryz.func6, Tryz.ntmps6
  go_wp2_with fail
  refine C.out.mono ?_
  rintro e w1 ⟨rfl, A3⟩
  obtain ⟨p0, p1, p2, p3, p4, p5⟩ := valBlk (A3.box (q := W.heap.size + 1) List.mem_cons_self)
  have hz := A3.lt _ List.mem_cons_self
  replace A3 := Lib.hid A3
  go_wp2
  exact bodyPost_ret (v := .tuple #[.int .i64 0, .agg #[.int .i64 0, .int .i64 0, .string ⟨#[]⟩]]) (by simp [results, Tryz.results6, go_sem, p0, p1, p2]) rfl ⟨rfl, HA.out.shut2 A3.out (outside3 _ _ _ _ _)⟩
set_option maxRecDepth 100000 in
set_option maxHeartbeats 1600000 in
theorem do_7 (A : HAt w h H L W) (G : H.Good N) (o : OpM) (hd : o.d = 7) (hin : SeesV W o.sl o.l) (ha : Arg w L o.sl) (hN : N + o.l.length + 1 ≤ 4000000) : Calls Tryz.prog 6 #[.pointer (some ⟨h, 0, none⟩), o.val] W (DoAt w h (H.sweep o.l) L (((H.objs.length - (H.sweep o.l).objs.length : Nat) : Int)) (.agg #[.int .i64 0, .int .i64 0, .string ⟨#[]⟩])) := by
  obtain ⟨d, kd, i, j, nm, n, v, k, x, a, l, cap, hd', hkd, hi, hj, hn, hs⟩ := o
  simp only [OpM.sl] at *
  try simp only at hd
  subst hd
  have A2 := (A.alloc (.cells #[.int .i64 7, .int .i64 kd, .int .i64 i, .int .i64 j, .string nm, .int .i64 n, .int .i64 v.kind, .int .i64 v.n, .string v.s, .int .i64 k.kind, .int .i64 k.n, .string k.s, .int .i64 x.kind, .int .i64 x.n, .string x.s, .slice a l.length cap] 36)).alloc (.cells #[.int .i64 0, .int .i64 0, .string ⟨#[]⟩] 31)
  simp only [World.size_alloc] at A2
  have C := Lib.hid (A2.sweep G (by omega) (.slice a l.length cap) l (hin.keep fun p u hp => cellAlloc (cellAlloc hp _) _) (fun g o' n' c' e h0 => by rcases ha g o' n' c' e h0 with h | ⟨o2, h⟩; exact .inl h; exact .inr ⟨o2, List.mem_cons_of_mem _ (List.mem_cons_of_mem _ h)⟩) (by omega))
  have HA := Lib.hid A
  clear A A2 hin ha hN G
  generalize hS : H.sweep l = S at *
  clear hS
  simp only [OpM.val, V.val] at *
  go_enter Tryz.func6, Tryz.ntmps6
  go_wp2_with fail
  refine C.out.mono ?_
  rintro e w1 ⟨⟨f, rfl, hf⟩, A3⟩
  obtain rfl : f = H.objs.length - S.objs.length := by omega
  clear hf
  obtain ⟨p0, p1, p2, p3, p4, p5⟩ := valBlk (A3.box (q := W.heap.size + 1) List.mem_cons_self)
  have hz := A3.lt _ List.mem_cons_self
  replace A3 := Lib.hid A3
  go_wp2
  exact bodyPost_ret (v := .tuple #[.int .i64 ((H.objs.length - S.objs.length : Nat) : Int), .agg #[.int .i64 0, .int .i64 0, .string ⟨#[]⟩]]) (by simp [results, Tryz.results6, go_sem, p0, p1, p2]) rfl ⟨rfl, HA.out.shut2 A3.out (outside3 _ _ _ _ _)⟩
set_option maxRecDepth 100000 in
set_option maxHeartbeats 1600000 in
theorem do_8 (A : HAt w h H L W) (G : H.Good N) (o : OpM) (hd : o.d = 8) (hin : SeesV W o.sl o.l) (ha : Arg w L o.sl) (hN : N + o.l.length + 1 ≤ 4000000) : Calls Tryz.prog 6 #[.pointer (some ⟨h, 0, none⟩), o.val] W (DoAt w h (H.freeAll (o.l.map (·.n))) L (H.freed (o.l.map (·.n))) (.agg #[.int .i64 0, .int .i64 0, .string ⟨#[]⟩])) := by
  obtain ⟨d, kd, i, j, nm, n, v, k, x, a, l, cap, hd', hkd, hi, hj, hn, hs⟩ := o
  simp only [OpM.sl] at *
  try simp only at hd
  subst hd
  have A2 := (A.alloc (.cells #[.int .i64 8, .int .i64 kd, .int .i64 i, .int .i64 j, .string nm, .int .i64 n, .int .i64 v.kind, .int .i64 v.n, .string v.s, .int .i64 k.kind, .int .i64 k.n, .string k.s, .int .i64 x.kind, .int .i64 x.n, .string x.s, .slice a l.length cap] 36)).alloc (.cells #[.int .i64 0, .int .i64 0, .string ⟨#[]⟩] 31)
  simp only [World.size_alloc] at A2
  have CN := Lib.hid (numbers_ok ((W.alloc (.cells #[.int .i64 8, .int .i64 kd, .int .i64 i, .int .i64 j, .string nm, .int .i64 n, .int .i64 v.kind, .int .i64 v.n, .string v.s, .int .i64 k.kind, .int .i64 k.n, .string k.s, .int .i64 x.kind, .int .i64 x.n, .string x.s, .slice a l.length cap] 36)).alloc (.cells #[.int .i64 0, .int .i64 0, .string ⟨#[]⟩] 31)) (.slice a l.length cap) l (hin.keep fun p u hp => cellAlloc (cellAlloc hp _) _) (by omega))
  have hok : ∀ n ∈ l.map (·.n), okI n := fun n hn => by obtain ⟨x, _, rfl⟩ := List.mem_map.1 hn; exact x.hn
  have HA := Lib.hid A
  have HA2 := Lib.hid A2
  have HG := Lib.hid (And.intro G hN)
  clear A A2 hin ha hN G
  simp only [OpM.val, V.val] at *
  generalize l.map (·.n) = ns at *
  go_enter Tryz.func6, Tryz.ntmps6
  go_wp2_with fail
  refine CN.out.mono ?_
  rintro e w1 ⟨rv, rfl, R⟩
  obtain ⟨na, nc, rfl⟩ := R.1.form
  have A5 := HA2.out.withSl R.2.2 R.2.1
  have C := Lib.hid (A5.free HG.out.1 (by have := HG.out.2; omega) (.slice na ns.length nc) ns (SeesN.of_slIs R.1) (fun g o' n' c' e h0 => by
    have hb : (Value.slice na ns.length nc).ownBlock = some g := by rw [e]; rfl
    obtain ⟨cs, hc⟩ := R.1.typed g hb
    exact .inr ⟨_, List.mem_append_left _ (mem_ownL hb hc)⟩) hok)
  clear R A5 hok CN
  go_wp2_with fail
  refine C.out.mono ?_
  rintro e w2 ⟨rfl, A4⟩
  have A3 := A4.less (fun p hp => List.mem_append_right _ hp)
  clear A4
  obtain ⟨p0, p1, p2, p3, p4, p5⟩ := valBlk (A3.box (q := W.heap.size + 1) List.mem_cons_self)
  have hz := A3.lt _ List.mem_cons_self
  replace A3 := Lib.hid A3
  go_wp2
  exact bodyPost_ret (v := .tuple #[.int .i64 (H.freed ns), .agg #[.int .i64 0, .int .i64 0, .string ⟨#[]⟩]]) (by simp [results, Tryz.results6, go_sem, p0, p1, p2]) rfl ⟨rfl, HA.out.shut2 A3.out (outside3 _ _ _ _ _)⟩
set_option maxRecDepth 100000 in
set_option maxHeartbeats 1600000 in
theorem do_0 (A : HAt w h H L W) (G : H.Good N) (o : OpM) (hd : ¬ (1 ≤ o.d ∧ o.d ≤ 8)) (hin : SeesV W o.sl o.l) (ha : Arg w L o.sl) (hN : N + o.l.length + 1 ≤ 4000000) : Calls Tryz.prog 6 #[.pointer (some ⟨h, 0, none⟩), o.val] W (DoAt w h (H) L (0) (.agg #[.int .i64 0, .int .i64 0, .string ⟨#[]⟩])) := by
  obtain ⟨d, kd, i, j, nm, n, v, k, x, a, l, cap, hd', hkd, hi, hj, hn, hs⟩ := o
  simp only [OpM.sl] at *
  try simp only at hd
  have A2 := (A.alloc (.cells #[.int .i64 d, .int .i64 kd, .int .i64 i, .int .i64 j, .string nm, .int .i64 n, .int .i64 v.kind, .int .i64 v.n, .string v.s, .int .i64 k.kind, .int .i64 k.n, .string k.s, .int .i64 x.kind, .int .i64 x.n, .string x.s, .slice a l.length cap] 36)).alloc (.cells #[.int .i64 0, .int .i64 0, .string ⟨#[]⟩] 31)
  simp only [World.size_alloc] at A2
  have e1 : (d == 1) = false := by simp; omega
  have e2 : (d == 2) = false := by simp; omega
  have e3 : (d == 3) = false := by simp; omega
  have e4 : (d == 4) = false := by simp; omega
  have e5 : (d == 5) = false := by simp; omega
  have e6 : (d == 6) = false := by simp; omega
  have e7 : (d == 7) = false := by simp; omega
  have e8 : (d == 8) = false := by simp; omega
  have HA := Lib.hid A
  have HA2 := Lib.hid A2
  simp only [OpM.val, V.val] at *
  clear A A2 hin ha hN G hd hd' hkd hi hj hn hs
  go_enter Tryz.func6, Tryz.ntmps6
  go_wp2
  refine bodyPost_ret (v := .tuple #[.int .i64 0, .agg #[.int .i64 0, .int .i64 0, .string ⟨#[]⟩]]) (by simp [results, Tryz.results6, go_sem]) rfl ⟨rfl, HA.out.shut2 HA2.out ?_⟩
  first | exact Outside.refl _ _ | exact outside3 _ _ _ _ _
theorem HAt.doo (A : HAt w h H L W) (G : H.Good N) (o : OpM) (hin : SeesV W o.sl o.l) (ha : Arg w L o.sl) (hN : N + o.l.length + 1 ≤ 4000000) : Calls Tryz.prog 6 #[.pointer (some ⟨h, 0, none⟩), o.val] W (DoAt w h (H.doo o) L (H.doN o) (H.doV o)) := by
  by_cases h0 : 1 ≤ o.d ∧ o.d ≤ 8
  · obtain e | e | e | e | e | e | e | e : o.d = 1 ∨ o.d = 2 ∨ o.d = 3 ∨ o.d = 4 ∨ o.d = 5 ∨ o.d = 6 ∨ o.d = 7 ∨ o.d = 8 := by omega
    · by_cases hk : 1 ≤ o.kd ∧ o.kd ≤ 12
      · have := do_1y A G o e hin ha hN hk.1 hk.2
        simpa [HeapM.doo, HeapM.doN, HeapM.doV, HeapM.doOk, e, hk] using this
      · have := do_1n A G o e hin ha hN (by omega)
        simpa [HeapM.doo, HeapM.doN, HeapM.doV, HeapM.doOk, e, hk] using this
    · have := do_2 A G o e hin ha hN
      simpa [HeapM.doo, HeapM.doN, HeapM.doV, HeapM.doOk, e] using this
    · have := do_3 A G o e hin ha hN
      simpa [HeapM.doo, HeapM.doN, HeapM.doV, HeapM.doOk, e] using this
    · have := do_4 A G o e hin ha hN
      simpa [HeapM.doo, HeapM.doN, HeapM.doV, HeapM.doOk, e] using this
    · have := do_5 A G o e hin ha hN
      simpa [HeapM.doo, HeapM.doN, HeapM.doV, HeapM.doOk, e] using this
    · have := do_6 A G o e hin ha hN
      simpa [HeapM.doo, HeapM.doN, HeapM.doV, HeapM.doOk, e] using this
    · have := do_7 A G o e hin ha hN
      simpa [HeapM.doo, HeapM.doN, HeapM.doV, HeapM.doOk, e] using this
    · have := do_8 A G o e hin ha hN
      simpa [HeapM.doo, HeapM.doN, HeapM.doV, HeapM.doOk, e] using this
  · have := do_0 A G o h0 hin ha hN
    have e1 : ¬ o.d = 1 := by omega
    have e2 : ¬ o.d = 2 := by omega
    have e3 : ¬ o.d = 3 := by omega
    have e4 : ¬ o.d = 4 := by omega
    have e5 : ¬ o.d = 5 := by omega
    have e6 : ¬ o.d = 6 := by omega
    have e7 : ¬ o.d = 7 := by omega
    have e8 : ¬ o.d = 8 := by omega
    simpa [HeapM.doo, HeapM.doN, HeapM.doV, HeapM.doOk, e1, e2, e3, e4, e5, e6, e7, e8] using this
end
end Go.Proofs.YtoancpjlkhijiaaGreat
