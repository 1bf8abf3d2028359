import Derived.Test.YtijlebhoapdfnaaGreatHeapE
/- The heap: Sweep. -/
namespace Go.Proofs.YtijlebhoapdfnaaGreat
set_option linter.unusedSimpArgs false
open Go.RowKit
set_option linter.unusedVariables false
structure MapAt (w : World) (h : Nat) (H : HeapM) (ma : Nat) (obs : List (Int × Nat)) : Prop where
 c0 : w.cell? ⟨h, 0, none⟩ = some (.map (some ma))
 hm : mapIs w Tryz.prog 2 ekI exP ma obs
 keys : obs.map (·.1) = H.objs.map (·.1)
 get : ∀ n, (getL obs n).isSome = (getL H.objs n).isSome
theorem HeapIs.mapAt {w : World} {h : Nat} {H : HeapM} {ε : Int → Int} {F : List Nat} (hh : HeapIs w h H ε F) : ∃ ma obs, MapAt w h H ma obs := by
 obtain ⟨ma, mr, rows, r, h1, h2, h3, h4, h5, h6, h7, h8⟩ := hh
 refine ⟨ma, _, cellAt h1 0 rfl, h2, by rw [h5]; simp, fun n => ?_⟩
 rw [h5]
 rcases getL_map2 HRow.n HRow.b HRow.o rows n with ⟨g1, g2⟩ | ⟨p, hp, g0, g1, g2⟩ <;> rw [g1, g2] <;> rfl
theorem Sw.only {w W W' : World} {h : Nat} {H : HeapM} {ε : Int → Int} {F : List Nat} {bh bw ma ri : Nat} {l : List Int} {obs left : List (Int × Nat)} (S : Sw w h H ε F bh bw l W) (ho : onlyAt W W' ri) (hi : iterIs W Tryz.prog 2 ekI exP ma ri obs left) (hri : w.heap.size ≤ ri) (hF : ∀ b ∈ F, b < w.heap.size) : Sw w h H ε F bh bw l W' := by
 have hit : ∃ m c s c', W.heap[ri]? = some (.mapIter m c s c') := by
  obtain ⟨es, clock, seen, h1, h2, h3, h4, h5, _⟩ := hi; exact ⟨_, _, _, _, h5⟩
 obtain ⟨m, c, s, c', hit⟩ := hit
 have hbk : ∀ k o, W.heap[k]? = some o → k ≠ ri → W'.heap[k]? = some o := fun k o hk hne => (ho.2.block k (blockLt hk) (by simpa using hne)).trans hk
 have hnri : ∀ k cs t fr, W.heap[k]? = some (.cells cs t fr) → k ≠ ri := fun k cs t fr hk e => by subst e; rw [hit] at hk; cases hk
 obtain ⟨v, v1, v2, v3⟩ := S.bw
 obtain ⟨F', f1, f2⟩ := S.hh
 refine ⟨hbk _ _ S.bh (hnri _ _ _ _ S.bh), ⟨v, hbk _ _ v1 (hnri _ _ _ _ v1), v2.of_block fun g hg => ?_, v3⟩, ⟨F', f1.of_block fun k hk => ?_, f2⟩, ?_⟩
 ·
  obtain ⟨cs, hc⟩ := v2.typed g hg
  rw [hc]; exact hbk _ _ hc (hnri _ _ _ _ hc)
 ·
  have hkl := f1.lt k hk
  refine ho.2.block k hkl ?_
  simp only [ne_eq, Option.some.injEq]
  have := hF k (f2 k hk)
  omega
 ·
  exact ⟨ho.2.os.trans S.out.os, ho.2.tape.trans S.out.tape, ho.2.output.trans S.out.output, by have := S.out.size; have := ho.1; omega, fun k hk hn => (ho.2.block k (by have := S.out.size; omega) (by simp; omega)).trans (S.out.block k hk hn)⟩
theorem Sw.below {w W W' : World} {h : Nat} {H : HeapM} {ε : Int → Int} {F : List Nat} {bh bw : Nat} {l : List Int} (S : Sw w h H ε F bh bw l W) (hb : Below W.heap.size W W') : Sw w h H ε F bh bw l W' := by
 obtain ⟨v, v1, v2, v3⟩ := S.bw
 obtain ⟨F', f1, f2⟩ := S.hh
 exact ⟨(hb.block _ S.bh.lt).trans S.bh, ⟨v, (hb.block _ v1.lt).trans v1, v2.of_block fun g hg => hb.block g (v2.lt g hg), v3⟩, ⟨F', f1.below hb, f2⟩, S.out.trans (Outside.of_below hb F) (Grow.refl _ _)⟩
end Go.Proofs.YtijlebhoapdfnaaGreat
/- The heap, as a law sees it: its blocks are the law's own; what the law laid beside it is kept. -/
namespace Go.Proofs.YtijlebhoapdfnaaGreat
set_option linter.unusedSimpArgs false
open Go.RowKit
set_option linter.unusedVariables false
structure HeapM.Good (H : HeapM) (N : Nat) : Prop where
 ok : H.Ok
 wt : H.weight + H.last.toNat ≤ N
theorem vals_le_weight {H : HeapM} {p : Int × ObjM} (h : p ∈ H.objs) : p.2.vals.length ≤ H.weight := by
 have : ∀ l : List (Int × ObjM), p ∈ l → p.2.vals.length ≤ (allVals l).length := by
  intro l
  induction l with
  | nil => simp
  | cons q r ih =>
   intro hm
   have hc : allVals (q :: r) = q.2.vals ++ allVals r := by simp [allVals]
   rw [hc, List.length_append]
   rcases List.mem_cons.1 hm with e | e
   ·
    subst e; omega
   ·
    have := ih e; omega
 have := this _ h
 unfold HeapM.weight; omega
theorem items_le_vals (o : ObjM) : o.items.length ≤ o.vals.length := by simp [ObjM.vals]
theorem HeapM.Ok.nk {H : HeapM} (h : H.Ok) : (H.objs.map (·.1)).Nodup := h.asc.imp fun h e => by omega
theorem HeapM.Good.items {H : HeapM} {N : Nat} (h : H.Good N) (v : V) : (H.items v).length ≤ N := by
 unfold HeapM.items
 cases g : H.of v with
 | none => simp
 | some o =>
  have h1 : o.vals.length ≤ H.weight := vals_le_weight (getL_mem (HeapM.of_some g).2)
  have := items_le_vals o
  have := h.wt
  simp only [Option.map_some, Option.getD_some]
  omega
theorem HeapM.Good.key {H : HeapM} {N : Nat} (h : H.Good N) (hN : N ≤ 4000000) {p : Int × ObjM} (hp : p ∈ H.objs) : okI p.1 := by
 have := h.ok.pos p hp
 have := h.ok.last
 have := h.wt
 exact okI_of ⟨by omega, by omega⟩
theorem HeapM.Good.cnt {H : HeapM} {N : Nat} (h : H.Good N) (n : Int) : 0 ≤ cnt (allVals H.objs) n ∧ cnt (allVals H.objs) n ≤ N := by
 have h1 := cnt_le (allVals H.objs) n
 have := h.wt
 have h2 := cnt_nonneg (allVals H.objs) n
 unfold HeapM.weight at this
 exact ⟨h2, by omega⟩
/-- In W lies the heap H at h; its blocks are none of those that lay in w; the blocks L lie as they are, and are not its own. -/
def HAt (w : World) (h : Nat) (H : HeapM) (L : List (Nat × Obj)) (W : World) : Prop :=
 ∃ F, HeapIs W h H (fun _ => 0) F ∧ (∀ b ∈ F, w.heap.size ≤ b) ∧ Below w.heap.size w W ∧ ∀ p ∈ L, W.heap[p.1]? = some p.2 ∧ p.1 ∉ F
theorem HAt.box {w W : World} {h : Nat} {H : HeapM} {L : List (Nat × Obj)} (A : HAt w h H L W) {q : Nat} {o : Obj} (hq : (q, o) ∈ L) : W.heap[q]? = some o := by
 obtain ⟨F, _, _, _, hL⟩ := A; exact (hL _ hq).1
theorem HAt.below {w W : World} {h : Nat} {H : HeapM} {L : List (Nat × Obj)} (A : HAt w h H L W) : Below w.heap.size w W := by
 obtain ⟨F, _, _, hb, _⟩ := A; exact hb
theorem HAt.later {w W W' : World} {h : Nat} {H : HeapM} {L : List (Nat × Obj)} (A : HAt w h H L W) (hb : Below W.heap.size W W') : HAt w h H L W' := by
 obtain ⟨F, f1, f2, f3, f4⟩ := A
 exact ⟨F, f1.below hb, f2, Below.next f3 hb f3.size, fun p hp => ⟨blockBelow (f4 p hp).1 hb, (f4 p hp).2⟩⟩
/-- What is beside the heap changes. -/
theorem HAt.beside {w W W' : World} {h : Nat} {H : HeapM} {L L' : List (Nat × Obj)} {G : List Nat} (A : HAt w h H L W) (ho : Outside G W W') (hG : ∀ q ∈ G, (w.heap.size ≤ q ∧ ∃ o, (q, o) ∈ L) ∨ W.heap.size ≤ q) (hL : ∀ p ∈ L', (p ∈ L ∧ p.1 ∉ G) ∨ (W'.heap[p.1]? = some p.2 ∧ ((∃ o, (p.1, o) ∈ L) ∨ W.heap.size ≤ p.1))) : HAt w h H L' W' := by
 obtain ⟨F, f1, f2, f3, f4⟩ := A
 have hGF : ∀ b ∈ F, b ∉ G := fun b hb hg => by
  rcases hG b hg with ⟨_, o, h⟩ | h
  ·
   exact (f4 _ h).2 hb
  ·
   have := f1.lt b hb; omega
 refine ⟨F, f1.outside ho hGF, f2, Outside.below_of f3 ho (fun b hb => by rcases hG b hb with ⟨h, _⟩ | h; exact h; have := f3.size; omega) f3.size, fun p hp => ?_⟩
 rcases hL p hp with ⟨h1, h2⟩ | ⟨h1, h2⟩
 ·
  exact ⟨(ho.block p.1 (blockLt (f4 p h1).1) h2).trans (f4 p h1).1, (f4 p h1).2⟩
 ·
  refine ⟨h1, fun hm => ?_⟩
  rcases h2 with ⟨o, h2⟩ | h2
  ·
   exact (f4 _ h2).2 hm
  ·
   have := f1.lt _ hm; omega
/-- A slice that the law handed in, or laid. -/
def Arg (w : World) (L : List (Nat × Obj)) (sv : Value) : Prop := ∀ g o n c, sv = .slice (some ⟨g, o, none⟩) n c → 0 < n → g < w.heap.size ∨ ∃ o', (g, o') ∈ L
theorem Arg.notIn {w W : World} {h : Nat} {H : HeapM} {L : List (Nat × Obj)} {F : List Nat} {sv : Value} (a : Arg w L sv) (f2 : ∀ b ∈ F, w.heap.size ≤ b) (f4 : ∀ p ∈ L, W.heap[p.1]? = some p.2 ∧ p.1 ∉ F) : notIn F sv := by
 intro g o n c e h0 hm
 rcases a g o n c e h0 with h | ⟨o', h⟩
 ·
  have := f2 g hm; omega
 ·
  exact (f4 _ h).2 hm
theorem HAt.post {w W W' : World} {h : Nat} {H' : HeapM} {L : List (Nat × Obj)} {F : List Nat} (f2 : ∀ b ∈ F, w.heap.size ≤ b) (f3 : Below w.heap.size w W) (f4 : ∀ p ∈ L, W.heap[p.1]? = some p.2 ∧ p.1 ∉ F) (P : HeapPost h H' (fun _ => 0) F W W') : HAt w h H' L W' := by
 obtain ⟨F', g1, g2, g3⟩ := P
 have hz := f3.size
 refine ⟨F', g1, fun b hb => ?_, Outside.below_of f3 g3 f2 hz, fun p hp => ⟨(g3.block p.1 (blockLt (f4 p hp).1) (f4 p hp).2).trans (f4 p hp).1, fun hm => ?_⟩⟩
 ·
  rcases g2 b hb with h | h
  ·
   exact f2 b h
  ·
   omega
 ·
  rcases g2 _ hm with h | h
  ·
   exact (f4 p hp).2 h
  ·
   have := blockLt (f4 p hp).1; omega
/-- A slice's own block. -/
def ownL (W : World) (sv : Value) : List (Nat × Obj) := match sv.ownBlock with | some g => (match W.heap[g]? with | some o => [(g, o)] | none => []) | none => []
theorem ownL_mem {W : World} {sv : Value} {p : Nat × Obj} (h : p ∈ ownL W sv) : sv.ownBlock = some p.1 ∧ W.heap[p.1]? = some p.2 := by
 unfold ownL at h
 cases hs : sv.ownBlock with
 | none => rw [hs] at h; simp at h
 | some g =>
  rw [hs] at h
  simp only at h
  cases ho : W.heap[g]? with
  | none => rw [ho] at h; simp at h
  | some o => rw [ho] at h; simp at h; subst h; exact ⟨rfl, ho⟩
theorem HAt.withSl {w W W' : World} {h : Nat} {H : HeapM} {L : List (Nat × Obj)} {sv : Value} (A : HAt w h H L W) (hb : Below W.heap.size W W') (hf : ∀ b, sv.ownBlock = some b → W.heap.size ≤ b) : HAt w h H (ownL W' sv ++ L) W' := by
 obtain ⟨F, f1, f2, f3, f4⟩ := A
 refine ⟨F, f1.below hb, f2, Below.next f3 hb f3.size, fun p hp => ?_⟩
 rcases List.mem_append.1 hp with h | h
 ·
  obtain ⟨h1, h2⟩ := ownL_mem h
  exact ⟨h2, fun hm => by have := f1.lt _ hm; have := hf _ h1; omega⟩
 ·
  exact ⟨blockBelow (f4 p h).1 hb, (f4 p h).2⟩
section
variable {w W : World} {h : Nat} {H : HeapM} {L : List (Nat × Obj)} {N : Nat}
theorem HAt.make (A : HAt w h H L W) (G : H.Good N) (hN : N + 1 ≤ 4000000) (o : ObjM) (sv : Value) (hs : SeesV W sv o.items) (hlen : o.items.length ≤ 4194304) (hp : o.pairs = []) (hk1 : 1 ≤ o.kind) (hk2 : o.kind ≤ 12) :
  Calls Tryz.prog 35 #[.pointer (some ⟨h, 0, none⟩), .int .i64 o.kind, .string o.name, .int .i64 o.num, sv] W fun e W' => e = .returned (.agg #[.int .i64 4, .int .i64 (H.last + 1), .string ⟨#[]⟩]) ∧ HAt w h (H.add o) L W' := by
 obtain ⟨F, f1, f2, f3, f4⟩ := A
 have := G.wt
 exact (heap_make_yes W h o sv f1 G.ok (by omega) hs hlen hp hk1 hk2).mono fun e W' ⟨e1, e2⟩ => ⟨e1, HAt.post f2 f3 f4 e2⟩
theorem HAt.replace (A : HAt w h H L W) (G : H.Good N) (v : V) (i j : Int) (sv : Value) (l : List V) (hs : SeesV W sv l) (hN : N + l.length ≤ 4000000) :
  Calls Tryz.prog 43 #[.pointer (some ⟨h, 0, none⟩), v.val, .int .i64 i, .int .i64 j, sv] W fun e W' => e = .returned (.bool (H.canReplace v i j)) ∧ HAt w h (H.replace v i j l) L W' := by
 obtain ⟨F, f1, f2, f3, f4⟩ := A
 have := G.items v
 exact (heap_replace W h v i j sv l f1 hs (by omega)).mono fun e W' ⟨e1, e2⟩ => ⟨e1, HAt.post f2 f3 f4 e2⟩
theorem HAt.put (A : HAt w h H L W) (v k x : V) :
  Calls Tryz.prog 45 #[.pointer (some ⟨h, 0, none⟩), v.val, k.val, x.val] W fun e W' => e = .returned (.bool (H.canPut v k)) ∧ HAt w h (H.put v k x) L W' := by
 obtain ⟨F, f1, f2, f3, f4⟩ := A
 exact (heap_put W h v k x f1).mono fun e W' ⟨e1, e2⟩ => ⟨e1, HAt.post f2 f3 f4 e2⟩
theorem HAt.kind (A : HAt w h H L W) (v : V) : Calls Tryz.prog 72 #[.pointer (some ⟨h, 0, none⟩), v.val] W fun e W' => e = .returned (.int .i64 (H.kind v)) ∧ HAt w h H L W' := by
 have B := A
 obtain ⟨F, f1, f2, f3, f4⟩ := A
 exact (heap_kind W h v f1).mono fun e W' ⟨e1, e2⟩ => ⟨e1, B.later e2⟩
theorem HAt.items (A : HAt w h H L W) (G : H.Good N) (hN : N ≤ 4000000) (v : V) :
  Calls Tryz.prog 78 #[.pointer (some ⟨h, 0, none⟩), v.val] W fun e W' => ∃ sv, e = .returned sv ∧ slIs W' 24 3 V.cells sv (H.items v) ∧ (∀ b, sv.ownBlock = some b → W.heap.size ≤ b) ∧ HAt w h H (ownL W' sv ++ L) W' ∧ Below W.heap.size W W' := by
 have B := A
 obtain ⟨F, f1, f2, f3, f4⟩ := A
 have := G.items v
 exact (heap_items W h v f1 (by omega)).mono fun e W' ⟨sv, e1, e2, e3, e4⟩ => ⟨sv, e1, e2, e3, B.withSl e4 e3, e4⟩
end
theorem good_empty : (⟨[], 0⟩ : HeapM).Good 0 := ⟨⟨by simp, by simp, by simp⟩, by simp [HeapM.weight, allVals]⟩
end Go.Proofs.YtijlebhoapdfnaaGreat
