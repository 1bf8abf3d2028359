import Derived.Test.YtkocenlglodklaaHeapE
/- The heap: Sweep. -/
namespace Go.Proofs.Ytkocenlglodklaa
set_option linter.unusedSimpArgs false
open Go.RowKit
set_option linter.unusedVariables false
structure HoldAt (w : World) (h : Nat) (H : HeapM) (ε : Int → Int) (F : List Nat) (mr : Nat) (r : List (Int × Int)) : Prop where
  c1 : w.cell? ⟨h, 1, none⟩ = some (.map (some mr))
  hr : mapIs w Try.prog 2 ekI exI mr r
  hc : CountsAre H ε r
  mem : mr ∈ F
  shut : ∀ (w' : World) (r' : List (Int × Int)) (ε' : Int → Int), mapIs w' Try.prog 2 ekI exI mr r' → CountsAre H ε' r' → Outside [mr] w w' → HeapIs w' h H ε' F
theorem HeapIs.holdAt {w : World} {h : Nat} {H : HeapM} {ε : Int → Int} {F : List Nat} (hh : HeapIs w h H ε F) : ∃ mr r, HoldAt w h H ε F mr r := by
  have hlt := hh.lt
  obtain ⟨ma, mr, rows, r, h1, h2, h3, h4, h5, h6, h7, h8⟩ := hh
  have h7' := h7
  rw [h6] at h7'
  simp only [List.nodup_cons, List.mem_cons, not_or] at h7'
  obtain ⟨⟨n1, n2, n3⟩, ⟨n4, n5⟩, n6, n7⟩ := h7'
  refine ⟨mr, r, cellAt h1 1 rfl, h3, h8, by rw [h6]; simp, fun w' r' ε' j1 j2 j3 => ?_⟩
  refine ⟨ma, mr, rows, r', (j3.block h (blockLt h1) (by simpa using n2)).trans h1, h2.of_block (j3.block ma h2.lt (by simpa using n4)), j1, fun q hq => (h4 q hq).of_block fun x hx => ?_, h5, h6, h7, j2⟩
  have hm : x ∈ rows.flatMap (·.F) := List.mem_flatMap.2 ⟨q, hq, hx⟩
  refine j3.block x (hlt x (by rw [h6]; simp only [List.mem_cons]; exact .inr (.inr (.inr hm)))) ?_
  simp only [List.mem_singleton]; intro e; subst e; exact n6 hm
structure MapAt (w : World) (h : Nat) (H : HeapM) (ma : Nat) (obs : List (Int × Nat)) : Prop where
  c0 : w.cell? ⟨h, 0, none⟩ = some (.map (some ma))
  hm : mapIs w Try.prog 2 ekI exP ma obs
  keys : obs.map (·.1) = H.objs.map (·.1)
  get : ∀ n, (getL obs n).isSome = (getL H.objs n).isSome
theorem HeapIs.mapAt {w : World} {h : Nat} {H : HeapM} {ε : Int → Int} {F : List Nat} (hh : HeapIs w h H ε F) : ∃ ma obs, MapAt w h H ma obs := by
  obtain ⟨ma, mr, rows, r, h1, h2, h3, h4, h5, h6, h7, h8⟩ := hh
  refine ⟨ma, _, cellAt h1 0 rfl, h2, by rw [h5]; simp, fun n => ?_⟩
  rw [h5]
  rcases getL_map2 HRow.n HRow.b HRow.o rows n with ⟨g1, g2⟩ | ⟨p, hp, g0, g1, g2⟩ <;> rw [g1, g2] <;> rfl
/-- What the first loop hands on. -/
def SwRel1 (w : World) (h : Nat) (H : HeapM) (E : List V) (F : List Nat) (bh bw ma ri : Nat) (obs : List (Int × Nat)) (g : Nat) (wr : World) : Prop :=
  ∃ left l, g = left.length ∧ iterIs wr Try.prog 2 ekI exP ma ri obs left ∧ (∀ p ∈ left, p ∈ obs) ∧ Sw w h H (cnt E) F bh bw l wr ∧ WaitInv H E (fun m => ∃ b, (m, b) ∈ left) l ∧ l.length + left.length ≤ obs.length ∧ ∀ n ∈ l, okI n
/-- And the second one. -/
def SwRel2 (w : World) (h : Nat) (H : HeapM) (E : List V) (F : List Nat) (bh bw g : Nat) (s8 : Value) (wr : World) : Prop :=
  ∃ Hk l f, g = Hk.weight + l.length ∧ s8 = .int .i64 (f : Nat) ∧ Sw w h Hk (cnt E) F bh bw l wr ∧ SwInv H E Hk f ∧ WaitInv Hk E (fun _ => False) l ∧ Hk.weight + l.length ≤ 2000000000 ∧ Hk.Fine ∧ (∀ n ∈ l, okI n)
theorem Sw.only {w W W' : World} {h : Nat} {H : HeapM} {ε : Int → Int} {F : List Nat} {bh bw ma ri : Nat} {l : List Int} {obs left : List (Int × Nat)} (S : Sw w h H ε F bh bw l W) (ho : onlyAt W W' ri) (hi : iterIs W Try.prog 2 ekI exP ma ri obs left) (hri : w.heap.size ≤ ri) (hF : ∀ b ∈ F, b < w.heap.size) : Sw w h H ε F bh bw l W' := by
  have hit : ∃ m c s c', W.heap[ri]? = some (.mapIter m c s c') := by
    obtain ⟨es, clock, seen, h1, h2, h3, h4, h5, _⟩ := hi; exact ⟨_, _, _, _, h5⟩
  obtain ⟨m, c, s, c', hit⟩ := hit
  have hbk : ∀ k o, W.heap[k]? = some o → k ≠ ri → W'.heap[k]? = some o := fun k o hk hne => (ho.2.block k (blockLt hk) (by simpa using hne)).trans hk
  have hnri : ∀ k cs t fr, W.heap[k]? = some (.cells cs t fr) → k ≠ ri := fun k cs t fr hk e => by subst e; rw [hit] at hk; cases hk
  obtain ⟨v, v1, v2, v3⟩ := S.bw
  obtain ⟨F', f1, f2⟩ := S.hh
  refine ⟨hbk _ _ S.bh (hnri _ _ _ _ S.bh), ⟨v, hbk _ _ v1 (hnri _ _ _ _ v1), v2.of_block fun g hg => ?_, v3⟩, ⟨F', f1.of_block fun k hk => ?_, f2⟩, ?_⟩
  · obtain ⟨cs, hc⟩ := v2.typed g hg
    rw [hc]; exact hbk _ _ hc (hnri _ _ _ _ hc)
  · have hkl := f1.lt k hk
    refine ho.2.block k hkl ?_
    simp only [ne_eq, Option.some.injEq]
    have := hF k (f2 k hk)
    omega
  · exact ⟨ho.2.os.trans S.out.os, ho.2.tape.trans S.out.tape, ho.2.output.trans S.out.output, by have := S.out.size; have := ho.1; omega, fun k hk hn => (ho.2.block k (by have := S.out.size; omega) (by simp; omega)).trans (S.out.block k hk hn)⟩
theorem iterIs.look {w W W' : World} {h : Nat} {H : HeapM} {ε : Int → Int} {F : List Nat} {bh bw ma ri : Nat} {l : List Int} {obs left : List (Int × Nat)} (hi : iterIs W Try.prog 2 ekI exP ma ri obs left) (s2 : LookKeeps w bw W W') (s1 : Sw w h H ε F bh bw l W) : iterIs W' Try.prog 2 ekI exP ma ri obs left := by
  have hi0 := hi
  obtain ⟨v, v1, v2, v3⟩ := s1.bw
  obtain ⟨es, clock, seen, h1, h2, h3, h4, h5, h6⟩ := hi
  have n1 : ma ≠ bw := by intro e; subst e; rw [show W.heap[ma]? = _ from v1] at h1; cases h1
  have n2 : ri ≠ bw := by intro e; subst e; rw [show W.heap[ri]? = _ from v1] at h5; cases h5
  exact hi0.of_block ((s2.2.1 ma _ h1 n1 (fun cs fr => by simp)).trans h1.symm) ((s2.2.1 ri _ h5 n2 (fun cs fr => by simp)).trans h5.symm)
theorem Sw.pop {w W : World} {h : Nat} {H : HeapM} {ε : Int → Int} {F : List Nat} {bh bw : Nat} {l : List Int} {n : Int} (S : Sw w h H ε F bh bw (l ++ [n]) W) {g cap : Nat} (v1 : Boxed W bw 74 (.slice (some ⟨g, 0, none⟩) (l.length + 1) cap))
    (v2 : slIs W 2 1 intCell (.slice (some ⟨g, 0, none⟩) (l.length + 1) cap) (l ++ [n])) (v3 : ∀ b, (Value.slice (some ⟨g, 0, none⟩) (l.length + 1) cap).ownBlock = some b → w.heap.size ≤ b) (hbh : bh ≠ bw) (hbw : w.heap.size ≤ bw) (hF : ∀ b ∈ F, b < w.heap.size) :
    Sw w h H ε F bh bw l (W.setCell ⟨bw, 0, none⟩ (.slice (some ⟨g, 0, none⟩) l.length cap)) := by
  have hne : some bw ≠ (Value.slice (some ⟨g, 0, none⟩) (l.length + 1) cap).ownBlock := v1.not_row (by decide) v2
  have hgb : g ≠ bw := fun e => hne (by rw [e]; rfl)
  obtain ⟨F', f1, f2⟩ := S.hh
  have hk : ∀ k, k ≠ bw → (W.setCell ⟨bw, 0, none⟩ (.slice (some ⟨g, 0, none⟩) l.length cap)).heap[k]? = W.heap[k]? := fun k hk => Below.heap_setCell _ _ _ _ hk
  refine ⟨(hk _ hbh).trans S.bh, ⟨_, v1.set _, ?_, fun b hb => v3 b hb⟩, ⟨F', f1.of_block fun k hk' => hk k (by have := hF k (f2 k hk'); omega), f2⟩, S.out.setCell (.inr hbw) _⟩
  have h9 : slIs W 2 1 intCell (.slice (some ⟨g, 0, none⟩) (l ++ [n]).length cap) (l ++ [n]) := by simpa using v2
  have h1 := h9.take intCell_len (x := l.length) (by simp)
  have e : (l ++ [n]).take l.length = l := List.take_left
  rw [e] at h1
  exact h1.of_block fun g' hg' => hk g' (by cases hg'; exact hgb)
theorem Sw.dropped {w W W' : World} {h : Nat} {H H' : HeapM} {ε : Int → Int} {F F' : List Nat} {bh bw : Nat} {l : List Int} (S : Sw w h H ε F bh bw l W) (hh : HeapIs W' h H' ε F') (hFF : ∀ x ∈ F', x ∈ F) (ho : Outside F W W') (hF : ∀ b ∈ F, b < w.heap.size) (hbh : w.heap.size ≤ bh) (hbw : w.heap.size ≤ bw) :
    Sw w h H' ε F bh bw l W' := by
  have hk : ∀ k, k < W.heap.size → w.heap.size ≤ k → W'.heap[k]? = W.heap[k]? := fun k hk h1 => ho.block k hk (fun hm => by have := hF k hm; omega)
  obtain ⟨v, v1, v2, v3⟩ := S.bw
  exact ⟨(hk _ S.bh.lt hbh).trans S.bh, ⟨v, (hk _ v1.lt hbw).trans v1, v2.of_block fun g hg => hk g (v2.lt g hg) (v3 g hg), v3⟩, ⟨F', hh, hFF⟩, S.out.trans ho (Grow.refl _ _)⟩
theorem Sw.below {w W W' : World} {h : Nat} {H : HeapM} {ε : Int → Int} {F : List Nat} {bh bw : Nat} {l : List Int} (S : Sw w h H ε F bh bw l W) (hb : Below W.heap.size W W') : Sw w h H ε F bh bw l W' := by
  obtain ⟨v, v1, v2, v3⟩ := S.bw
  obtain ⟨F', f1, f2⟩ := S.hh
  exact ⟨(hb.block _ S.bh.lt).trans S.bh, ⟨v, (hb.block _ v1.lt).trans v1, v2.of_block fun g hg => hb.block g (v2.lt g hg), v3⟩, ⟨F', f1.below hb, f2⟩, S.out.trans (Outside.of_below hb F) (Grow.refl _ _)⟩
/-- What the innermost loop hands on. -/
def SwRel3 (w : World) (h : Nat) (H : HeapM) (E : List V) (F : List Nat) (bh bw : Nat) (o : ObjM) (sv : Value) (n0 k : Nat) (wi : World) : Prop :=
  ∃ l, Sw w h H (cnt E) F bh bw l wi ∧ WaitInv H E (fun m => ∃ v ∈ o.vals.drop k, v.kind = 4 ∧ v.n = m) l ∧ l.length ≤ n0 + k ∧ slIs wi 33 3 V.cells sv o.vals ∧ ∀ n ∈ l, okI n
def SweepPost (h : Nat) (H : HeapM) (E : List V) (F : List Nat) (w : World) (e : Ending) (w' : World) : Prop :=
  (∃ f : Nat, e = .returned (.int .i64 f) ∧ f + (H.sweep E).objs.length = H.objs.length) ∧ ∃ F', HeapIs w' h (H.sweep E) (fun _ => 0) F' ∧ (∀ x ∈ F', x ∈ F) ∧ Outside F w w'
set_option maxRecDepth 100000 in
set_option maxHeartbeats 1600000 in
theorem heap_sweep (w : World) (h : Nat) (sv : Value) (E : List V) {H : HeapM} {F : List Nat} (hh : HeapIs w h H (fun _ => 0) F) (hfine : H.Fine) (hs : SeesV w sv E) (hni : notIn F sv) (hkeys : ∀ p ∈ H.objs, okI p.1) (hbig : H.weight + H.objs.length + E.length ≤ 1000000000) :
    Calls Try.prog 41 #[.pointer (some ⟨h, 0, none⟩), sv] w (SweepPost h H E F w) := by
  have hF := hh.lt
  have HH := Lib.hid hh
  have HS := Lib.hid hs
  have HNI := Lib.hid hni
  have HFI := Lib.hid hfine
  have HKY := Lib.hid hkeys
  have HBG := Lib.hid hbig
  have hW1 : Below w.heap.size w (w.alloc (.cells #[.pointer (some ⟨h, 0, none⟩)] 28)) := belowAlloc _ _
  obtain ⟨mr, r, A⟩ := (hh.below hW1).holdAt
  have HA := Lib.hid A
  have hs1 := hs.keep (w' := w.alloc (.cells #[.pointer (some ⟨h, 0, none⟩)] 28)) fun p v hp => cellBelow hp hW1
  have HHO := Lib.hid (heap_hold _ h mr 1 sv E r A.c1 A.hr hs1)
  obtain ⟨sa, scap, rfl, hsa⟩ := hs
  clear hh hsa hni hfine hkeys hbig hs1 A hW1
  go_enter Try.func41, Try.ntmps41
  go_wp2_with fail
  refine HHO.out.mono ?_
  rintro e w2 ⟨⟨_, rfl⟩, hm2, ho2⟩
  have hbx : Boxed (w.alloc (.cells #[.pointer (some ⟨h, 0, none⟩)] 28)) w.heap.size 28 (.pointer (some ⟨h, 0, none⟩)) := Boxed.new _ _ _
  have hmw : mr < w.heap.size := by have := HA.out.mem; exact hF mr this
  have hbx2 : Boxed w2 w.heap.size 28 (.pointer (some ⟨h, 0, none⟩)) := (ho2.block _ (by simp) (by simp; omega)).trans hbx
  have hh2 : HeapIs w2 h H (cnt E) F := HA.out.shut w2 _ _ hm2 (fun m => by
    rw [cntL_holdL 1 E HA.out.hc m]
    congr 1; simp only; omega) ho2
  have hO2 : Outside F w w2 := ((Outside.refl F w).alloc _).trans (ho2.mono (by simpa using HA.out.mem)) (Grow.refl _ _)
  obtain ⟨ma, obs, M⟩ := hh2.mapAt
  have q0 := hbx2.cell
  have c0 := M.c0
  have hhl := World.block_lt_of_cell? w2 _ c0
  have hbl := hbx2.lt
  have HI2 := Lib.hid (And.intro hh2 (And.intro hO2 (And.intro hbx2 M)))
  clear hm2 ho2 hbx hbx2 hh2 hO2 M
  have M3 := Lib.hid (fun o => HI2.out.2.2.2.hm.alloc o)
  go_wp2_with (at_range; refine wpList_range_is rfl _ 84 rfl 88 Try.underlying84 rfl (M3.out _) ?_; intro w4 i1 i2 i3)
  obtain ⟨bw, hbw⟩ : ∃ bw, w2.heap.size = bw := ⟨_, rfl⟩
  have hst : SwRel1 w h H E F w.heap.size bw ma (bw + 1) obs obs.length w4 := by
    obtain ⟨hh2, hO2, hbx2, M⟩ := HI2.out
    have hB4 : Below w2.heap.size w2 w4 := (belowAlloc _ _).grown i2 (by simp) (by simp)
    have hbwx : Boxed w4 bw 74 (.slice none 0 0) := by
      have := (Boxed.new w2 74 (.slice none 0 0)).kept i2 (by simp)
      rwa [hbw] at this
    refine ⟨obs, [], rfl, by simpa [hbw] using i1, fun p hp => hp, ⟨(hB4.block _ hbx2.lt).trans hbx2, ⟨_, hbwx, World.ownsRow_nil _ _ _ _, by simp [Value.ownBlock]⟩, ⟨F, hh2.below hB4, fun x hx => hx⟩, hO2.trans (Outside.of_below hB4 F) (Grow.refl _ _)⟩, ⟨fun n hn => .inr ?_, by simp⟩, by simp, by simp⟩
    have h1 := (isLoose_iff.1 hn).1
    rw [← M.get] at h1
    obtain ⟨b, hb⟩ := Option.isSome_iff_exists.1 h1
    exact ⟨b, getL_mem hb⟩
  have HST := Lib.hid hst
  have HBW := Lib.hid hbw
  have hbwl : w.heap.size < bw := by omega
  have hKO : ∀ p ∈ obs, okI p.1 := fun p hp => by
    have : p.1 ∈ obs.map (·.1) := List.mem_map.2 ⟨p, hp, rfl⟩
    rw [HI2.out.2.2.2.keys] at this
    obtain ⟨q, hq, e⟩ := List.mem_map.1 this
    rw [← e]; exact HKY.out q hq
  have HKO := Lib.hid hKO
  have hlen : obs.length = H.objs.length := by
    have := congrArg List.length HI2.out.2.2.2.keys; simpa using this
  have HLEN := Lib.hid hlen
  have hsmall : ∀ n, -9223372036854775808 ≤ cnt (allVals H.objs) n + cnt E n ∧ cnt (allVals H.objs) n + cnt E n ≤ 9223372036854775807 := fun n => by
    have h1 := cnt_nonneg (allVals H.objs) n
    have h2 := cnt_nonneg E n
    have h3 := cnt_le (allVals H.objs) n
    have h4 := cnt_le E n
    have h5 := HBG.out
    unfold HeapM.weight at h5
    omega
  have HSM := Lib.hid hsmall
  have hri : (w2.alloc (.cells #[.slice none 0 0] 74)).heap.size = bw + 1 := by simp [hbw]
  rw [hri, hbw]
  clear hri
  clear hst i1 i2 i3 hKO hlen q0 c0 hsmall hbl hhl M3 hbw
  go_frame
  go_loopg [] obs.length (fun g wr => SwRel1 w h H E F w.heap.size bw ma (bw + 1) obs g wr)
  case atStart => exact HST.out
  case round =>
    clear HST
    obtain ⟨left, l, rfl, d1, d2, d3, d4, d5, d6⟩ := hrel
    have D := Lib.hid (And.intro d1 (And.intro d2 (And.intro d3 (And.intro d4 (And.intro d5 d6)))))
    have q0 := d3.bh.cell
    clear d1 d2 d3 d4 d5 d6
    go_wp2_with (at_next; refine wpList_next_is rfl _ rfl rfl D.out.1 ?_ ?_)
    · intro hnil
      have HN := Lib.hid hnil
      clear hnil
      have hst2 : SwRel2 w h H E F w.heap.size bw (H.weight + l.length) (.int .i64 (0 : Int)) wr := by
        obtain ⟨d1, d2, d3, d4, d5, d6⟩ := D.out
        have hln : l.length ≤ obs.length := by omega
        have := HLEN.out
        have := HBG.out
        have := HFI.out
        refine ⟨H, l, 0, rfl, rfl, d3, SwInv.start E HFI.out.nk, d4.skip (fun m hm ⟨b, hb⟩ => by rw [HN.out] at hb; simp at hb), by omega, HFI.out, d6⟩
      have HST := Lib.hid hst2
      clear hst2
      go_wp2
      go_loopg [8] (H.weight + l.length) (fun g s8 wr => SwRel2 w h H E F w.heap.size bw g s8 wr)
      case atStart => exact HST.out
      case round =>
        clear HST
        obtain ⟨Hk, l2, f, rfl, rfl, s1, s2, s3, s4, s5, s6⟩ := hrel
        have hfb : f ≤ 1000000000 := by have := s2.freed; have := HBG.out; omega
        have q0 := s1.bh.cell
        obtain ⟨wx, rfl⟩ : ∃ wx : World, wr = wx := ⟨_, rfl⟩
        rcases List.eq_nil_or_concat l2 with rfl | ⟨l', n, hl2⟩
        · obtain ⟨v, v1, v2, v3⟩ := s1.bw
          obtain ⟨va, vcap, rfl⟩ := v2.form
          have q1 := v1.cell
          replace q1 : wr.cell? ⟨bw, 0, none⟩ = some (.slice va 0 vcap) := q1
          have hdone := s2.done HFI.out.nk (fun m => by
            cases hm : isLoose Hk (cnt E) m with
            | false => rfl
            | true => rcases s3.all m hm with h | h; simp at h; exact h.elim)
          have hfr := s2.freed
          subst hdone
          obtain ⟨F', hh', hFF⟩ := s1.hh
          obtain ⟨mr', r', A'⟩ := hh'.holdAt
          have hsv : SeesV wr (.slice sa E.length scap) E := HS.out.outside HNI.out s1.out
          have HH7 := Lib.hid (heap_hold wr h mr' (-1) _ E r' A'.c1 A'.hr hsv)
          have HX := Lib.hid (And.intro A' (And.intro hFF (And.intro s1.out hfr)))
          clear s1 s2 s3 s4 s5 s6 v1 v2 v3 hh' hFF A' hsv hfr
          go_wp2_with fail
          refine HH7.out.mono ?_
          rintro e w8 ⟨⟨_, rfl⟩, hm8, ho8⟩
          have HY := Lib.hid (And.intro hm8 ho8)
          clear hm8 ho8 q0 q1
          go_wp2
          go_ret
          obtain ⟨A', hFF, hout, hfr⟩ := HX.out
          obtain ⟨hm8, ho8⟩ := HY.out
          refine ⟨⟨f, rfl, hfr⟩, F', A'.shut w8 _ _ hm8 (fun m => ?_) ho8, hFF, hout.trans (ho8.mono (by simpa using hFF _ A'.mem)) (Grow.refl _ _)⟩
          rw [cntL_holdL (-1) E A'.hc m]
          congr 1
          omega
        · rw [List.concat_eq_append] at hl2
          subst hl2
          obtain ⟨v, v1, v2, v3⟩ := s1.bw
          obtain ⟨g, cap, hv, hcap, hcm, hgl⟩ : ∃ g cap, v = .slice (some ⟨g, 0, none⟩) (l'.length + 1) cap ∧ l'.length + 1 ≤ cap ∧ cap ≤ maxLen ∧ g < wr.heap.size := by
            rcases v2.shape with ⟨_, h2⟩ | ⟨g, cap, h1, h2, h3, h4⟩
            · simp at h2
            · rw [List.length_append, List.length_singleton] at h1 h2; exact ⟨g, cap, h1, h2, h3, h4⟩
          subst hv
          have hpop := s1.pop v1 v2 v3 (by omega) (by omega) hF
          have q1 := v1.cell
          have q2 := v1.frozen
          have q3 := v2.cell intCell_len rfl (i := l'.length) (a := n) (by simp) (j := 0) rfl
          rw [Nat.mul_one, Nat.add_zero] at q3
          have hokn : okI n := s6 n (by simp)
          have hu : Try.prog.underlying 74 = some (.slice (Try.prog.elem 74)) := by kernel_rfl
          have hsz : ∀ W, (sizeOf (Try.prog.elem 74)).run Try.prog W = .ok 1 W := fun W => by kernel_rfl
          have hsl : ∀ W, (Instr.slice 74 (.slice (some ⟨g, 0, none⟩) (l'.length + 1) cap) none (some (.int .i64 l'.length)) none).run Try.prog W = .ok (.slice (some ⟨g, 0, none⟩) l'.length cap) W := fun W => by
            rw [run_slice_h W _ _ _ _ hu _ _ (by omega) (by omega), hsz]
            have : ¬ cap = 0 := by omega
            simp [Result.andThen, sliced, this, Addr.add]
          have hbig : (l'.length : Int) + 1 ≤ 2000000000 := by rw [List.length_append, List.length_singleton] at s4; omega
          have hcI : (l'.length : Int) + 1 ≤ cap := by omega
          have hcm' : (cap : Int) ≤ 9223372036854775807 := by unfold maxLen at hcm; omega
          have hwl : w.heap.size ≤ wr.heap.size := s1.out.size
          have HX := Lib.hid (And.intro hpop (And.intro s2 (And.intro s3 (And.intro s4 (And.intro s5 s6)))))
          clear s1 s2 s3 s4 s5 s6 v1 v2 v3 hpop hcap hcm hu hsz
          go_upto_region 14 with fail
          obtain ⟨W', hW'⟩ : ∃ W', wr.setCell ⟨bw, 0, none⟩ (.slice (some ⟨g, 0, none⟩) l'.length cap) = W' := ⟨_, rfl⟩
          rw [hW']
          obtain ⟨S1, s2, s3, s4, s5, s6⟩ := HX.out
          rw [hW'] at S1
          obtain ⟨F', f1, f2⟩ := S1.hh
          obtain ⟨ma', obs', M'⟩ := f1.mapAt
          have q0' := S1.bh.cell
          have c0' := M'.c0
          obtain ⟨kl, hkl⟩ := keyOfI hokn
          have hz : ∀ W, (zeroValue 88).run Try.prog W = .ok (.pointer none) W := fun W => Try.zeroValue88 W
          have hlk := M'.hm.look ekI_inj keyI Try.underlying84 (hz _) hkl false
          have hget := M'.get n
          have HY := Lib.hid (And.intro S1 (And.intro f1 f2))
          clear hW' q1 q2 q3 hsl q0 hz hkl M' HX hcI hcm' hgl
          cases hg : getL Hk.objs n with
          | none =>
            rw [hg] at hget
            have hn2 : getL obs' n = none := by simpa using hget
            rw [hn2] at hlk
            have hl2 : (Instr.lookup 84 (.map (some ma')) (.int .i64 n) false).run Try.prog W' = .ok (.pointer none) W' := hlk
            have hw := s3.gone hg
            have HZ := Lib.hid (And.intro s2 (And.intro hw (And.intro s4 (And.intro s5 s6))))
            clear hlk hget hn2 hw s2 s3 s4 s5 s6 S1 f1 f2 hg hokn
            go_wp2
            obtain ⟨s2, hw, s4, s5, s6⟩ := HZ.out
            obtain ⟨S1, f1, f2⟩ := HY.out
            go_roundg (Hk.weight + l'.length)
            case rel => exact ⟨Hk, l', f, rfl, rfl, S1, s2, hw, by rw [List.length_append, List.length_singleton] at s4; omega, s5, fun m hm => s6 m (List.mem_append_left _ hm)⟩
            all_goals (rw [List.length_append, List.length_singleton]; omega)
          | some o =>
            rw [hg] at hget
            obtain ⟨b', hb'⟩ := Option.isSome_iff_exists.1 hget
            rw [hb'] at hlk
            have hl2 : (Instr.lookup 84 (.map (some ma')) (.int .i64 n) false).run Try.prog W' = .ok (.pointer (some ⟨b', 0, none⟩)) W' := hlk
            have hll := s3.only n (by simp) (by rw [hg]; rfl)
            have hw := s3.drop s5.nk hg
            have hinv := s2.drop HFI.out.nk hll
            have hwt := weight_drop s5.nk hg
            have HDR := Lib.hid (heap_drop W' h n hokn f1 hg s5.nk (s5.fits (n, o) (getL_mem hg)))
            have hbf : (f : Int) ≤ 1000000000 := by omega
            have HZ := Lib.hid (And.intro hinv (And.intro hw (And.intro s4 (And.intro (s5.drop n) (And.intro s6 (And.intro hwt hg))))))
            clear hlk hget hb' hw s2 s3 s4 s5 s6 S1 f1 f2 hg hokn hll hinv hwt
            go_wp2_with fail
            refine HDR.out.mono ?_
            rintro e w5 ⟨sv2, rfl, t1, t2, F5, t3, t4, t5⟩
            obtain ⟨va2, vcap2, rfl⟩ := t1.form
            have hS5 := HY.out.1.dropped t3 (fun x hx => HY.out.2.2 x (t4 x hx)) (t5.mono HY.out.2.2) hF (Nat.le_refl _) (by omega)
            have HS5 := Lib.hid (And.intro hS5 t1)
            clear t1 t2 t3 t4 t5 hS5 q0' c0' hl2
            go_wp2
            have hvl : o.vals.length ≤ 2000000000 := by
              obtain ⟨hinv, hw, s4, s5, s6, hwt, hg⟩ := HZ.out
              omega
            have HVL := Lib.hid hvl
            have hvb : (o.vals.length : Int) ≤ 2000000000 := by omega
            have hst3 : SwRel3 w h (Hk.drop n) E F w.heap.size bw o (.slice va2 o.vals.length vcap2) l'.length 0 w5 := by
              obtain ⟨hinv, hw, s4, s5, s6, hwt, hg⟩ := HZ.out
              exact ⟨l', HS5.out.1, by simpa using hw, by omega, HS5.out.2, fun m hm => s6 m (List.mem_append_left _ hm)⟩
            have HST3 := Lib.hid hst3
            clear hvl hst3
            go_loopw [57] (fun i wi => ∃ k : Nat, k ≤ o.vals.length ∧ i = .int .i64 k ∧ SwRel3 w h (Hk.drop n) E F w.heap.size bw o (.slice va2 o.vals.length vcap2) l'.length k wi) (fun i _ => o.vals.length - (intOf i).toNat)
            case atStart => exact ⟨0, by omega, rfl, HST3.out⟩
            case round =>
              clear HST3
              obtain ⟨k, hk, rfl, l3, r1, r2, r3, r4, r5⟩ := hrel
              have q0 := r1.bh.cell
              by_cases hlt : k < o.vals.length
              · obtain ⟨x, hx⟩ : ∃ x, o.vals[k]? = some x := ⟨o.vals[k], by simp [hlt]⟩
                obtain ⟨gs, rfl⟩ : ∃ gs, va2 = some ⟨gs, 0, none⟩ := by
                  rcases r4.shape with ⟨h1, h2⟩ | ⟨gs, cap, h1, _⟩
                  · rw [h2] at hlt; simp at hlt
                  · cases h1; exact ⟨gs, rfl⟩
                have j0 := r4.cell V.cells_len rfl hx (j := 0) rfl
                rw [Nat.add_zero] at j0
                have j1 := r4.cell V.cells_len rfl hx (j := 1) rfl
                have j2 := r4.cell V.cells_len rfl hx (j := 2) rfl
                have gslt := r4.lt gs rfl
                have hil : (k : Int) < o.vals.length := by omega
                obtain ⟨F6, g1, g2⟩ := r1.hh
                obtain ⟨p, hp, hof⟩ := g1.of_any x
                have hW1 : Below wr.heap.size wr (wr.alloc (.cells #[.int .i64 x.kind, .int .i64 x.n, .string x.s] 33)) := belowAlloc _ _
                have hof1 := hof _ hW1
                simp only [V.val] at hof1
                have HOF := Lib.hid hof1
                have htodo : ∀ m, (∃ v ∈ o.vals.drop k, v.kind = 4 ∧ v.n = m) → (x.kind = 4 ∧ x.n = m) ∨ ∃ v ∈ o.vals.drop (k + 1), v.kind = 4 ∧ v.n = m := by
                  rintro m ⟨v, hv, h1, h2⟩
                  rw [List.drop_eq_getElem_cons hlt] at hv
                  have hxk : o.vals[k] = x := (List.getElem?_eq_some_iff.1 hx).2
                  rcases List.mem_cons.1 hv with h | h
                  · left; rw [← hxk, ← h]; exact ⟨h1, h2⟩
                  · exact .inr ⟨v, h, h1, h2⟩
                have HR := Lib.hid (And.intro r1 (And.intro r2 (And.intro r3 (And.intro r4 (And.intro r5 (And.intro htodo hp))))))
                have hbwl' := r1.bw
                have hwl9 : w.heap.size < wr.heap.size := r1.bh.lt
                have hvb9 : (o.vals.length : Int) ≤ 9223372036854775807 := by omega
                have HFB := Lib.hid (And.intro hfb (And.intro hbf (And.intro hbig hvb)))
                clear hof hof1 hx g1 g2 r1 r2 r3 r4 r5 htodo hW1 hbwl' hfb hbf hbig hvb
                cases p with
                | none =>
                  have HP := Lib.hid hp
                  clear hp
                  go_wp2_with fail
                  refine HOF.out.mono ?_
                  rintro e w6 ⟨rfl, hb6⟩
                  go_wp2
                  obtain ⟨r1, r2, r3, r4, r5, htodo, hp⟩ := HR.out
                  have hB := belowThen hb6
                  refine ⟨⟨k + 1, by omega, by go_num, l3, r1.below hB, r2.skip (fun m hm ht => ?_), by omega, r4.of_block fun g hg => hB.block g (r4.lt g hg), r5⟩, by simp [intOf]; omega⟩
                  rcases htodo m ht with ⟨h1, h2⟩ | h1
                  · exfalso
                    have h3 := (isLoose_iff.1 hm).1
                    have h4 : (HeapM.of (Hk.drop n) x).isSome = false := HP.out.symm
                    rw [HeapM.of, if_pos h1, h2, h3] at h4
                    cases h4
                  · exact h1
                | some a =>
                  have HP := Lib.hid hp
                  clear hp
                  go_wp2_with fail
                  refine HOF.out.mono ?_
                  rintro e w6 ⟨rfl, hb6⟩
                  obtain ⟨p0, p1, p2, p3, p4, p5⟩ := valBlk (boxAt hb6)
                  have hB := Lib.hid (belowThen hb6)
                  have HLK : Hid (Calls Try.prog 65 #[.int .i64 x.n, .pointer (some ⟨w.heap.size, 0, none⟩), .pointer (some ⟨bw, 0, none⟩)] w6 (LookPost w h (Hk.drop n) (cnt E) F w.heap.size bw l3 x.n w6)) := by
                    obtain ⟨r1, r2, r3, r4, r5, htodo, hp⟩ := HR.out
                    obtain ⟨hinv, hw, s4, s5, s6, hwt, hg⟩ := HZ.out
                    rw [List.length_append, List.length_singleton] at s4
                    refine sweep_look w h hF w6 (r1.below hB.out) x.n x.hn (by omega) (by omega) (Nat.le_refl _) ?_ (by omega)
                    have h1 := cnt_nonneg (allVals (Hk.drop n).objs) x.n
                    have h2 := cnt_nonneg E x.n
                    have h3 := cnt_le (allVals (Hk.drop n).objs) x.n
                    have h4 := cnt_le E x.n
                    have h5 := HBG.out
                    have h6 : (allVals (Hk.drop n).objs).length ≤ (Hk.drop n).weight := by unfold HeapM.weight; omega
                    omega
                  go_wp2_with fail
                  refine HLK.out.mono ?_
                  rintro e w7 ⟨⟨_, rfl⟩, z1, z2⟩
                  have HZ2 := Lib.hid (And.intro z1 z2)
                  clear z1 z2
                  go_wp2
                  obtain ⟨z1, z2⟩ := HZ2.out
                  obtain ⟨r1, r2, r3, r4, r5, htodo, hp⟩ := HR.out
                  refine ⟨⟨k + 1, by omega, by go_num, _, z1, r2.look x.n (fun m hm => ?_), ?_, ?_, ?_⟩, by simp [intOf]; omega⟩
                  · rcases htodo m hm with ⟨_, h2⟩ | h2
                    · exact .inl h2.symm
                    · exact .inr h2
                  · split
                    · rw [List.length_append, List.length_singleton]; omega
                    · omega
                  · refine r4.of_block fun g hg => ?_
                    have hg6 := hB.out.block g (r4.lt g hg)
                    obtain ⟨cs, hc⟩ := r4.typed g hg
                    have hc6 : w6.heap[g]? = some (.cells cs 33) := hg6.trans hc
                    rw [hc]
                    refine z2.2.1 g _ hc6 ?_ (fun cs' fr' => by simp)
                    intro e
                    obtain ⟨v, v1, _⟩ := r1.bw
                    have : wr.heap[g]? = some (.cells #[v] 74) := by rw [e]; exact v1
                    rw [hc] at this; cases this
                  · intro m hm
                    split at hm
                    · rcases List.mem_append.1 hm with h | h
                      · exact r5 m h
                      · simp at h; subst h; exact x.hn
                    · exact r5 m hm
              · have : k = o.vals.length := by omega
                subst this
                have HR := Lib.hid (And.intro r1 (And.intro r2 (And.intro r3 r5)))
                clear r1 r2 r3 r4 r5
                go_wp2
                obtain ⟨r1, r2, r3, r5⟩ := HR.out
                obtain ⟨hinv, hw, s4, s5, s6, hwt, hg⟩ := HZ.out
                go_roundg ((Hk.drop n).weight + l3.length)
                case rel => exact ⟨Hk.drop n, l3, f + 1, rfl, by go_num, r1, hinv, r2.skip (fun m _ ⟨v, hv, _⟩ => by simp at hv), by rw [List.length_append, List.length_singleton] at s4; omega, s5, r5⟩
                all_goals (rw [List.length_append, List.length_singleton]; omega)
    · intro pk px left' w5 hp hi ho he
      simp only [ekI, exP] at he
      obtain ⟨d1, d2, d3, d4, d5, d6⟩ := D.out
      have hpo : (pk, px) ∈ obs := d2 _ (hp.mem_iff.2 (by simp))
      have hokp : okI pk := HKO.out _ hpo
      have hlen' : left.length = left'.length + 1 := by have := hp.length_eq; simpa using this
      have hS5 : Sw w h H (cnt E) F w.heap.size bw l w5 := d3.only ho d1 (by omega) hF
      have HL := Lib.hid (sweep_look w h hF w5 hS5 pk hokp (by omega) (by omega) (Nat.le_refl _) (HSM.out pk) (by have := HLEN.out; have := HBG.out; omega))
      have HX := Lib.hid (And.intro hp (And.intro hi (And.intro hlen' (And.intro d2 (And.intro d4 (And.intro d5 (And.intro hS5 (And.intro d6 hokp))))))))
      clear hp hi ho hpo hokp hlen' hS5 d1 d2 d3 d4 d5 d6 q0
      go_wp2_with fail
      refine HL.out.mono ?_
      rintro e w6 ⟨⟨_, rfl⟩, s1, s2⟩
      have HX2 := Lib.hid (And.intro s1 s2)
      clear s1 s2
      go_wp2_with fail
      obtain ⟨hp, hi, hlen', d2, d4, d5, hS5, d6, hokp⟩ := HX.out
      obtain ⟨s1, s2⟩ := HX2.out
      have hi6 : iterIs w6 Try.prog 2 ekI exP ma (bw + 1) obs left' := hi.look s2 hS5
      go_roundg left'.length
      case rel =>
        refine ⟨left', _, rfl, hi6, fun p hp' => d2 p (hp.mem_iff.2 (by simp [hp'])), s1, d4.look pk (fun m ⟨b, hb⟩ => ?_), ?_, ?_⟩
        · have := hp.mem_iff.1 hb
          rcases List.mem_cons.1 this with h | h
          · cases h; exact .inl rfl
          · exact .inr ⟨b, h⟩
        · split
          · rw [List.length_append, List.length_singleton]; omega
          · omega
        · intro m hm
          split at hm
          · rcases List.mem_append.1 hm with h | h
            · exact d6 m h
            · simp at h; subst h; exact hokp
          · exact d6 m hm
      all_goals omega
end Go.Proofs.Ytkocenlglodklaa
/- The heap, as a law sees it: its blocks are the law's own; what the law laid beside it is kept. -/
namespace Go.Proofs.Ytkocenlglodklaa
set_option linter.unusedSimpArgs false
open Go.RowKit
set_option linter.unusedVariables false
structure HeapM.Good (H : HeapM) (N : Nat) : Prop where
  ok : H.Ok
  wt : H.weight + H.last.toNat ≤ N
theorem vals_le_weight {H : HeapM} {p : Int × ObjM} (h : p ∈ H.objs) : p.2.vals.length ≤ H.weight := by
  have : ∀ l : List (Int × ObjM), p ∈ l → p.2.vals.length ≤ (allVals l).length := by
    intro l
    induction l with
    | nil => simp
    | cons q r ih =>
      intro hm
      have hc : allVals (q :: r) = q.2.vals ++ allVals r := by simp [allVals]
      rw [hc, List.length_append]
      rcases List.mem_cons.1 hm with e | e
      · subst e; omega
      · have := ih e; omega
  have := this _ h
  unfold HeapM.weight; omega
theorem items_le_vals (o : ObjM) : o.items.length ≤ o.vals.length := by simp [ObjM.vals]
theorem HeapM.Ok.nk {H : HeapM} (h : H.Ok) : (H.objs.map (·.1)).Nodup := h.asc.imp fun h e => by omega
theorem HeapM.Good.fine {H : HeapM} {N : Nat} (h : H.Good N) (hN : N ≤ 4000000) : H.Fine :=
  ⟨h.ok.nk, fun p hp => by have := vals_le_weight hp; have := items_le_vals p.2; have := h.wt; omega⟩
theorem HeapM.Good.items {H : HeapM} {N : Nat} (h : H.Good N) (v : V) : (H.items v).length ≤ N := by
  unfold HeapM.items
  cases g : H.of v with
  | none => simp
  | some o =>
    have h1 : o.vals.length ≤ H.weight := vals_le_weight (getL_mem (HeapM.of_some g).2)
    have := items_le_vals o
    have := h.wt
    simp only [Option.map_some, Option.getD_some]
    omega
theorem HeapM.Good.key {H : HeapM} {N : Nat} (h : H.Good N) (hN : N ≤ 4000000) {p : Int × ObjM} (hp : p ∈ H.objs) : okI p.1 := by
  have := h.ok.pos p hp
  have := h.ok.last
  have := h.wt
  exact okI_of ⟨by omega, by omega⟩
theorem HeapM.Good.cnt {H : HeapM} {N : Nat} (h : H.Good N) (n : Int) : 0 ≤ cnt (allVals H.objs) n ∧ cnt (allVals H.objs) n ≤ N := by
  have h1 := cnt_le (allVals H.objs) n
  have := h.wt
  have h2 := cnt_nonneg (allVals H.objs) n
  unfold HeapM.weight at this
  exact ⟨h2, by omega⟩
/-- In W lies the heap H at h; its blocks are none of those that lay in w; the blocks L lie as they are, and are not its own. -/
def HAt (w : World) (h : Nat) (H : HeapM) (L : List (Nat × Obj)) (W : World) : Prop :=
  ∃ F, HeapIs W h H (fun _ => 0) F ∧ (∀ b ∈ F, w.heap.size ≤ b) ∧ Below w.heap.size w W ∧ ∀ p ∈ L, W.heap[p.1]? = some p.2 ∧ p.1 ∉ F
theorem HAt.box {w W : World} {h : Nat} {H : HeapM} {L : List (Nat × Obj)} (A : HAt w h H L W) {q : Nat} {o : Obj} (hq : (q, o) ∈ L) : W.heap[q]? = some o := by
  obtain ⟨F, _, _, _, hL⟩ := A; exact (hL _ hq).1
theorem HAt.below {w W : World} {h : Nat} {H : HeapM} {L : List (Nat × Obj)} (A : HAt w h H L W) : Below w.heap.size w W := by
  obtain ⟨F, _, _, hb, _⟩ := A; exact hb
theorem HAt.later {w W W' : World} {h : Nat} {H : HeapM} {L : List (Nat × Obj)} (A : HAt w h H L W) (hb : Below W.heap.size W W') : HAt w h H L W' := by
  obtain ⟨F, f1, f2, f3, f4⟩ := A
  exact ⟨F, f1.below hb, f2, Below.next f3 hb f3.size, fun p hp => ⟨blockBelow (f4 p hp).1 hb, (f4 p hp).2⟩⟩
theorem HAt.alloc {w W : World} {h : Nat} {H : HeapM} {L : List (Nat × Obj)} (A : HAt w h H L W) (o : Obj) : HAt w h H ((W.heap.size, o) :: L) (W.alloc o) := by
  obtain ⟨F, f1, f2, f3, f4⟩ := A
  have hb := belowAlloc W o
  refine ⟨F, f1.below hb, f2, Below.next f3 hb f3.size, fun p hp => ?_⟩
  rcases List.mem_cons.1 hp with h | h
  · subst h; exact ⟨heapAllocNew W o, fun hm => by have := f1.lt _ hm; simp only at this; omega⟩
  · exact ⟨blockBelow (f4 p h).1 hb, (f4 p h).2⟩
theorem HAt.less {w W : World} {h : Nat} {H : HeapM} {L L' : List (Nat × Obj)} (A : HAt w h H L W) (hL : ∀ p ∈ L', p ∈ L) : HAt w h H L' W := by
  obtain ⟨F, f1, f2, f3, f4⟩ := A; exact ⟨F, f1, f2, f3, fun p hp => f4 p (hL p hp)⟩
/-- What is beside the heap changes. -/
theorem HAt.beside {w W W' : World} {h : Nat} {H : HeapM} {L L' : List (Nat × Obj)} {G : List Nat} (A : HAt w h H L W) (ho : Outside G W W') (hG : ∀ q ∈ G, (w.heap.size ≤ q ∧ ∃ o, (q, o) ∈ L) ∨ W.heap.size ≤ q) (hL : ∀ p ∈ L', (p ∈ L ∧ p.1 ∉ G) ∨ (W'.heap[p.1]? = some p.2 ∧ ((∃ o, (p.1, o) ∈ L) ∨ W.heap.size ≤ p.1))) : HAt w h H L' W' := by
  obtain ⟨F, f1, f2, f3, f4⟩ := A
  have hGF : ∀ b ∈ F, b ∉ G := fun b hb hg => by
    rcases hG b hg with ⟨_, o, h⟩ | h
    · exact (f4 _ h).2 hb
    · have := f1.lt b hb; omega
  refine ⟨F, f1.outside ho hGF, f2, Outside.below_of f3 ho (fun b hb => by rcases hG b hb with ⟨h, _⟩ | h; exact h; have := f3.size; omega) f3.size, fun p hp => ?_⟩
  rcases hL p hp with ⟨h1, h2⟩ | ⟨h1, h2⟩
  · exact ⟨(ho.block p.1 (blockLt (f4 p h1).1) h2).trans (f4 p h1).1, (f4 p h1).2⟩
  · refine ⟨h1, fun hm => ?_⟩
    rcases h2 with ⟨o, h2⟩ | h2
    · exact (f4 _ h2).2 hm
    · have := f1.lt _ hm; omega
/-- A slice that the law handed in, or laid. -/
def Arg (w : World) (L : List (Nat × Obj)) (sv : Value) : Prop := ∀ g o n c, sv = .slice (some ⟨g, o, none⟩) n c → 0 < n → g < w.heap.size ∨ ∃ o', (g, o') ∈ L
theorem Arg.notIn {w W : World} {h : Nat} {H : HeapM} {L : List (Nat × Obj)} {F : List Nat} {sv : Value} (a : Arg w L sv) (f2 : ∀ b ∈ F, w.heap.size ≤ b) (f4 : ∀ p ∈ L, W.heap[p.1]? = some p.2 ∧ p.1 ∉ F) : notIn F sv := by
  intro g o n c e h0 hm
  rcases a g o n c e h0 with h | ⟨o', h⟩
  · have := f2 g hm; omega
  · exact (f4 _ h).2 hm
theorem HAt.post {w W W' : World} {h : Nat} {H' : HeapM} {L : List (Nat × Obj)} {F : List Nat} (f2 : ∀ b ∈ F, w.heap.size ≤ b) (f3 : Below w.heap.size w W) (f4 : ∀ p ∈ L, W.heap[p.1]? = some p.2 ∧ p.1 ∉ F) (P : HeapPost h H' (fun _ => 0) F W W') : HAt w h H' L W' := by
  obtain ⟨F', g1, g2, g3⟩ := P
  have hz := f3.size
  refine ⟨F', g1, fun b hb => ?_, Outside.below_of f3 g3 f2 hz, fun p hp => ⟨(g3.block p.1 (blockLt (f4 p hp).1) (f4 p hp).2).trans (f4 p hp).1, fun hm => ?_⟩⟩
  · rcases g2 b hb with h | h
    · exact f2 b h
    · omega
  · rcases g2 _ hm with h | h
    · exact (f4 p hp).2 h
    · have := blockLt (f4 p hp).1; omega
theorem HeapPost.of_sub {h : Nat} {H' : HeapM} {ε : Int → Int} {F F' : List Nat} {w w' : World} (h1 : HeapIs w' h H' ε F') (h2 : ∀ x ∈ F', x ∈ F) (h3 : Outside F w w') : HeapPost h H' ε F w w' := ⟨F', h1, fun b hb => .inl (h2 b hb), h3⟩
/-- A slice's own block. -/
def ownL (W : World) (sv : Value) : List (Nat × Obj) := match sv.ownBlock with | some g => (match W.heap[g]? with | some o => [(g, o)] | none => []) | none => []
theorem ownL_mem {W : World} {sv : Value} {p : Nat × Obj} (h : p ∈ ownL W sv) : sv.ownBlock = some p.1 ∧ W.heap[p.1]? = some p.2 := by
  unfold ownL at h
  cases hs : sv.ownBlock with
  | none => rw [hs] at h; simp at h
  | some g =>
    rw [hs] at h
    simp only at h
    cases ho : W.heap[g]? with
    | none => rw [ho] at h; simp at h
    | some o => rw [ho] at h; simp at h; subst h; exact ⟨rfl, ho⟩
theorem mem_ownL {W : World} {sv : Value} {g : Nat} {o : Obj} (hs : sv.ownBlock = some g) (ho : W.heap[g]? = some o) : (g, o) ∈ ownL W sv := by
  unfold ownL; rw [hs]; simp only; rw [ho]; simp
theorem HAt.keepSl {w W W2 : World} {h : Nat} {H : HeapM} {L : List (Nat × Obj)} {α : Type} {e : TypeId} {m : Nat} {f : α → List Value} {sv : Value} {l : List α} (A : HAt w h H L W2) (hs : slIs W e m f sv l) (hL : ∀ p ∈ ownL W sv, p ∈ L) : slIs W2 e m f sv l :=
  hs.of_block fun g hg => by
    obtain ⟨cs, hc⟩ := hs.typed g hg
    rw [hc]; exact A.box (hL _ (mem_ownL hg hc))
theorem HAt.withSl {w W W' : World} {h : Nat} {H : HeapM} {L : List (Nat × Obj)} {sv : Value} (A : HAt w h H L W) (hb : Below W.heap.size W W') (hf : ∀ b, sv.ownBlock = some b → W.heap.size ≤ b) : HAt w h H (ownL W' sv ++ L) W' := by
  obtain ⟨F, f1, f2, f3, f4⟩ := A
  refine ⟨F, f1.below hb, f2, Below.next f3 hb f3.size, fun p hp => ?_⟩
  rcases List.mem_append.1 hp with h | h
  · obtain ⟨h1, h2⟩ := ownL_mem h
    exact ⟨h2, fun hm => by have := f1.lt _ hm; have := hf _ h1; omega⟩
  · exact ⟨blockBelow (f4 p h).1 hb, (f4 p h).2⟩
section
variable {w W : World} {h : Nat} {H : HeapM} {L : List (Nat × Obj)} {N : Nat}
theorem HAt.make (A : HAt w h H L W) (G : H.Good N) (hN : N + 1 ≤ 4000000) (o : ObjM) (sv : Value) (hs : SeesV W sv o.items) (hlen : o.items.length ≤ 4194304) (hp : o.pairs = []) (hk1 : 1 ≤ o.kind) (hk2 : o.kind ≤ 12) :
    Calls Try.prog 19 #[.pointer (some ⟨h, 0, none⟩), .int .i64 o.kind, .string o.name, .int .i64 o.num, sv] W fun e W' => e = .returned (.agg #[.int .i64 4, .int .i64 (H.last + 1), .string ⟨#[]⟩]) ∧ HAt w h (H.add o) L W' := by
  obtain ⟨F, f1, f2, f3, f4⟩ := A
  have := G.wt
  exact (heap_make_yes W h o sv f1 G.ok (by omega) hs hlen hp hk1 hk2).mono fun e W' ⟨e1, e2⟩ => ⟨e1, HAt.post f2 f3 f4 e2⟩
theorem HAt.makeNo (A : HAt w h H L W) (k n : Int) (s : ByteArray) (a : Option Addr) (x c : Nat) (hk : k < 1 ∨ 12 < k) :
    Calls Try.prog 19 #[.pointer (some ⟨h, 0, none⟩), .int .i64 k, .string s, .int .i64 n, .slice a x c] W fun e W' => e = .returned V.zero.val ∧ HAt w h H L W' :=
  (heap_make_no W h k n s a x c hk).mono fun e W' ⟨e1, e2⟩ => ⟨e1, A.later e2⟩
theorem HAt.replace (A : HAt w h H L W) (G : H.Good N) (v : V) (i j : Int) (sv : Value) (l : List V) (hs : SeesV W sv l) (hN : N + l.length ≤ 4000000) :
    Calls Try.prog 50 #[.pointer (some ⟨h, 0, none⟩), v.val, .int .i64 i, .int .i64 j, sv] W fun e W' => e = .returned (.bool (H.canReplace v i j)) ∧ HAt w h (H.replace v i j l) L W' := by
  obtain ⟨F, f1, f2, f3, f4⟩ := A
  have := G.items v
  exact (heap_replace W h v i j sv l f1 hs (by omega)).mono fun e W' ⟨e1, e2⟩ => ⟨e1, HAt.post f2 f3 f4 e2⟩
theorem HAt.put (A : HAt w h H L W) (v k x : V) :
    Calls Try.prog 31 #[.pointer (some ⟨h, 0, none⟩), v.val, k.val, x.val] W fun e W' => e = .returned (.bool (H.canPut v k)) ∧ HAt w h (H.put v k x) L W' := by
  obtain ⟨F, f1, f2, f3, f4⟩ := A
  exact (heap_put W h v k x f1).mono fun e W' ⟨e1, e2⟩ => ⟨e1, HAt.post f2 f3 f4 e2⟩
theorem HAt.get (A : HAt w h H L W) (v k : V) :
    Calls Try.prog 35 #[.pointer (some ⟨h, 0, none⟩), v.val, k.val] W fun e W' => e = .returned (.tuple #[((H.get v k).getD V.zero).val, .bool (H.get v k).isSome]) ∧ HAt w h H L W' := by
  have B := A
  obtain ⟨F, f1, f2, f3, f4⟩ := A
  exact (heap_get W h v k f1).mono fun e W' ⟨e1, e2⟩ => ⟨e1, B.later e2⟩
theorem HAt.kind (A : HAt w h H L W) (v : V) : Calls Try.prog 23 #[.pointer (some ⟨h, 0, none⟩), v.val] W fun e W' => e = .returned (.int .i64 (H.kind v)) ∧ HAt w h H L W' := by
  have B := A
  obtain ⟨F, f1, f2, f3, f4⟩ := A
  exact (heap_kind W h v f1).mono fun e W' ⟨e1, e2⟩ => ⟨e1, B.later e2⟩
theorem HAt.name (A : HAt w h H L W) (v : V) : Calls Try.prog 24 #[.pointer (some ⟨h, 0, none⟩), v.val] W fun e W' => e = .returned (.string (H.name v)) ∧ HAt w h H L W' := by
  have B := A
  obtain ⟨F, f1, f2, f3, f4⟩ := A
  exact (heap_name W h v f1).mono fun e W' ⟨e1, e2⟩ => ⟨e1, B.later e2⟩
theorem HAt.items (A : HAt w h H L W) (G : H.Good N) (hN : N ≤ 4000000) (v : V) :
    Calls Try.prog 26 #[.pointer (some ⟨h, 0, none⟩), v.val] W fun e W' => ∃ sv, e = .returned sv ∧ slIs W' 33 3 V.cells sv (H.items v) ∧ (∀ b, sv.ownBlock = some b → W.heap.size ≤ b) ∧ HAt w h H (ownL W' sv ++ L) W' ∧ Below W.heap.size W W' := by
  have B := A
  obtain ⟨F, f1, f2, f3, f4⟩ := A
  have := G.items v
  exact (heap_items W h v f1 (by omega)).mono fun e W' ⟨sv, e1, e2, e3, e4⟩ => ⟨sv, e1, e2, e3, B.withSl e4 e3, e4⟩
theorem HAt.refs (A : HAt w h H L W) (G : H.Good N) (hN : N ≤ 4000000) (v : V) :
    Calls Try.prog 43 #[.pointer (some ⟨h, 0, none⟩), v.val] W fun e W' => ∃ sv, e = .returned sv ∧ slIs W' 2 1 intCell sv (H.refNs v) ∧ (∀ b, sv.ownBlock = some b → W.heap.size ≤ b) ∧ HAt w h H (ownL W' sv ++ L) W' ∧ Below W.heap.size W W' := by
  have B := A
  obtain ⟨F, f1, f2, f3, f4⟩ := A
  have := G.items v
  exact (heap_refs W h v f1 (by omega)).mono fun e W' ⟨sv, e1, e2, e3, e4⟩ => ⟨sv, e1, e2, e3, B.withSl e4 e3, e4⟩
theorem HAt.sweep (A : HAt w h H L W) (G : H.Good N) (hN : N ≤ 4000000) (sv : Value) (E : List V) (hs : SeesV W sv E) (ha : Arg w L sv) (hE : E.length ≤ 4000000) :
    Calls Try.prog 41 #[.pointer (some ⟨h, 0, none⟩), sv] W fun e W' => (∃ f : Nat, e = .returned (.int .i64 f) ∧ f + (H.sweep E).objs.length = H.objs.length) ∧ HAt w h (H.sweep E) L W' := by
  obtain ⟨F, f1, f2, f3, f4⟩ := A
  have := G.wt
  refine (heap_sweep W h sv E f1 (G.fine hN) hs (ha.notIn (H := H) (h := h) f2 f4) (fun p hp => G.key hN hp) ?_).mono fun e W' ⟨e1, F', e2, e3, e4⟩ => ⟨e1, HAt.post f2 f3 f4 (HeapPost.of_sub e2 e3 e4)⟩
  have : H.objs.length ≤ H.weight := by unfold HeapM.weight; omega
  omega
theorem HAt.live (A : HAt w h H L W) (G : H.Good N) (hN : N ≤ 4000000) (k : Int) : Calls Try.prog 38 #[.pointer (some ⟨h, 0, none⟩), .int .i64 k] W fun e W' => e = .returned (.int .i64 (H.live k)) ∧ HAt w h H L W' := by
  have B := A
  obtain ⟨F, f1, f2, f3, f4⟩ := A
  have := G.wt
  have : H.objs.length ≤ H.weight := by unfold HeapM.weight; omega
  exact (heap_live W h k f1 (by omega)).mono fun e W' ⟨e1, e2⟩ => ⟨e1, B.later e2⟩
end
theorem HAt.new (w W : World) (hb : Below w.heap.size w W) : Calls Try.prog 27 #[] W fun e W' => ∃ h, e = .returned (.pointer (some ⟨h, 0, none⟩)) ∧ HAt w h ⟨[], 0⟩ [] W' ∧ Below W.heap.size W W' := by
  refine (heap_new W).mono fun e W' ⟨h, F, e1, e2, e3, e4⟩ => ⟨h, e1, ⟨F, e2, fun b hb' => Nat.le_trans hb.size (e3 b hb'), Below.next hb e4 hb.size, by simp⟩, e4⟩
theorem good_empty : (⟨[], 0⟩ : HeapM).Good 0 := ⟨⟨by simp, by simp, by simp⟩, by simp [HeapM.weight, allVals]⟩
end Go.Proofs.Ytkocenlglodklaa
