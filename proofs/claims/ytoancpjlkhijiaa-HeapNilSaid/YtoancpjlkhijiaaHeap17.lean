/- The heap: Make. -/
import Derived.Test.YtoancpjlkhijiaaHeap16
namespace Go.Proofs.Ytoancpjlkhijiaa
open Go.RowKit
set_option linter.unusedVariables false
theorem okI_of {n : Int} (h : -9223372036854775808 ≤ n ∧ n ≤ 9223372036854775807) : okI n := by
  simp [okI, Lit.wf, IntKind.min, IntKind.max, IntKind.bits, IntKind.signed]; omega
/-- A slice of values lies in none of these blocks. -/
theorem SeesV.out {w w' : World} {sv : Value} {l : List V} {h ma : Nat} {a b c : Value} {t : TypeId} {obs : List (Int × Nat)} (hs : SeesV w sv l) (hd : w.heap[h]? = some (.cells #[a, b, c] t)) (ha : ∀ s, a ≠ .string s) (hb : ∀ s, b ≠ .string s) (hc : ∀ s, c ≠ .string s)
    (hm : mapIs w Try.prog 2 ekI exP ma obs) (ho : Outside [h, ma] w w') : SeesV w' sv l := by
  obtain ⟨p, cap, h1, h2, h3, h4⟩ := hs
  refine ⟨p, cap, h1, h2, h3, ?_⟩
  rcases h4 with h4 | ⟨g, o, h5, h6⟩
  · exact .inl h4
  · refine .inr ⟨g, o, h5, fun i v hv => ?_⟩
    obtain ⟨k0, k1, k2⟩ := h6 i v hv
    have hgh : g ≠ h := by
      intro e; subst e
      rw [cell_of_row w g _ _ t (0, 0) hd] at k2
      match hq : o + i * 3 + 2, k2 with
      | 0, k2 => simp at k2; exact ha _ k2
      | 1, k2 => simp at k2; exact hb _ k2
      | 2, k2 => simp at k2; exact hc _ k2
      | n + 3, k2 => simp at k2
    have hgm : g ≠ ma := hm.ne_cell k0
    exact ⟨ho.cell k0 (by simp [hgh, hgm]), ho.cell k1 (by simp [hgh, hgm]), ho.cell k2 (by simp [hgh, hgm])⟩
theorem HeapM.add_of {H : HeapM} (hok : H.Ok) (o : ObjM) (v : V) (hk : v.kind = 4) (hn : v.n = H.last + 1) : (H.add o).of v = some o := by
  unfold HeapM.of HeapM.add
  rw [if_pos hk, hn]
  refine getL_of_mem ?_ (by simp)
  rw [List.map_append]
  refine List.nodup_append.2 ⟨?_, by simp, ?_⟩
  · exact hok.asc.imp fun h e => by omega
  · intro a ha b hb e
    simp at hb; subst hb
    obtain ⟨p, hp, rfl⟩ := List.mem_map.1 ha
    have := (hok.pos p hp).2; omega
theorem HeapM.add_set {H : HeapM} (hok : H.Ok) (o o' : ObjM) : (H.add o).set (H.last + 1) o' = H.add o' := by
  unfold HeapM.set HeapM.add
  simp only [List.map_append, List.map_cons, List.map_nil, if_true]
  congr 2
  conv => rhs; rw [← List.map_id' H.objs]
  exact List.map_congr_left fun p hp => if_neg (by have := (hok.pos p hp).2; omega)
/-- A new object lies there, and is in the map. -/
def MadeAt (w : World) (h : Nat) (H : HeapM) (o : ObjM) (ma mr : Nat) (obs : List (Int × Nat)) (wx : World) : Prop :=
  ∃ d ob Fd, wx.heap[h]? = some (.cells #[.map (some ma), .map (some mr), .int .i64 (H.last + 1)] 75) ∧ mapIs wx Try.prog 2 ekI exP ma (obs ++ [(H.last + 1, ob)]) ∧ wx.heap[ob]? = some (objBlock o (.slice none 0 0) d) ∧ DictIs wx d [] Fd ∧
    (ob :: Fd).Nodup ∧ (∀ b ∈ ob :: Fd, w.heap.size ≤ b) ∧ Outside [h, ma] w wx
theorem made_ok {W0 W4 w5 wx : World} {h : Nat} {H : HeapM} {o : ObjM} {ma mr d : Nat} {obs : List (Int × Nat)} {Fd : List Nat} (hO4 : Outside [h, ma] W0 W4) (hd4 : W4.heap[h]? = some (.cells #[.map (some ma), .map (some mr), .int .i64 (H.last + 1)] 75)) {n : Nat} (hma : ma < n) (hz : n < W4.heap.size ∧ W0.heap.size = W4.heap.size)
    (hB5 : Below W4.heap.size W4 w5) (e1 : DictIs w5 d [] Fd) (e2 : ∀ b ∈ Fd, W4.heap.size ≤ b) (hm : mapIs wx Try.prog 2 ekI exP ma (obs ++ [(H.last + 1, w5.heap.size)])) (hon : onlyAt (w5.alloc (objBlock o (.slice none 0 0) d)) wx ma) (hne : h ≠ ma) : MadeAt W0 h H o ma mr obs wx := by
  have hz5 := hB5.size
  have hold : ∀ k, k < w5.heap.size → k ≠ ma → wx.heap[k]? = w5.heap[k]? := fun k hk h1 => (hon.2.block k (by simp; omega) (by simpa using h1)).trans (Below.heap_alloc _ _ _ hk)
  refine ⟨d, w5.heap.size, Fd, ?_, hm, ?_, ?_, ?_, ?_, ?_⟩
  · have := blockLt hd4
    exact (hold h (by omega) hne).trans (blockBelow hd4 hB5)
  · exact (hon.2.block _ (by simp) (by simp; omega)).trans (heapAllocNew _ _)
  · exact e1.of_block fun b hb => hold b (e1.lt b hb) (by have := e2 b hb; omega)
  · exact List.nodup_cons.2 ⟨fun hb => by have := e1.lt _ hb; omega, e1.nd⟩
  · intro b hb
    rcases List.mem_cons.1 hb with rfl | hb
    · omega
    · have := e2 b hb; omega
  · exact ((hO4.trans (Outside.of_below hB5 [h, ma]) (Grow.refl _ _)).alloc _).grown hon.2 (fun b hb => by cases hb; exact .inl (by simp))
def MakePost (h : Nat) (H : HeapM) (ε : Int → Int) (F : List Nat) (w : World) (o : ObjM) (e : Ending) (w' : World) : Prop :=
  e = .returned (.agg #[.int .i64 4, .int .i64 (H.last + 1), .string ⟨#[]⟩]) ∧ HeapPost h (H.add o) ε F w w'
set_option maxRecDepth 100000 in
set_option maxHeartbeats 1600000 in
theorem heap_make_yes (w : World) (h : Nat) (o : ObjM) (sv : Value) {H : HeapM} {ε : Int → Int} {F : List Nat} (hh : HeapIs w h H ε F) (hok : H.Ok) (hlast : H.last + 1 ≤ 9223372036854775807) (hs : SeesV w sv o.items) (hlen : o.items.length ≤ 4194304)
    (hp : o.pairs = []) (hk1 : 1 ≤ o.kind) (hk2 : o.kind ≤ 12) :
    Calls Try.prog 44 #[.pointer (some ⟨h, 0, none⟩), .int .i64 o.kind, .string o.name, .int .i64 o.num, sv] w (MakePost h H ε F w o) := by
  have hW0 : Below w.heap.size w (w.alloc (valObj V.zero)) := belowAlloc _ _
  obtain ⟨W0, eW0⟩ : ∃ W0, w.alloc (valObj V.zero) = W0 := ⟨_, rfl⟩
  have hz0 : W0.heap.size = w.heap.size + 1 := by rw [← eW0]; simp
  rw [eW0] at hW0
  obtain ⟨ma, mr, obs, M⟩ := (hh.below hW0).make hok
  have MM := Lib.hid M
  have hFl := hh.lt
  obtain ⟨hwd, hwm⟩ : w.heap[h]? = some (.cells #[.map (some ma), .map (some mr), .int .i64 H.last] 75) ∧ mapIs w Try.prog 2 ekI exP ma obs := by
    have e1 := M.hd
    have e2 := M.hm
    have k1 : ∀ k, k ≠ w.heap.size → W0.heap[k]? = w.heap[k]? := fun k hk => by
      by_cases h9 : k < w.heap.size
      · exact hW0.block k h9
      · rw [Array.getElem?_eq_none (by omega), Array.getElem?_eq_none (by omega)]
    have k2 : W0.heap[w.heap.size]? = some (valObj V.zero) := by rw [← eW0]; exact heapAllocNew _ _
    have n1 : h ≠ w.heap.size := by intro e; rw [e, k2] at e1; cases e1
    have n2 : ma ≠ w.heap.size := by intro e; obtain ⟨es, cl, e3, _⟩ := e2; rw [e, k2] at e3; cases e3
    exact ⟨(k1 h n1).symm.trans e1, e2.of_block (k1 ma n2).symm⟩
  have c0 := cellAt hwd 0 (v := .map (some ma)) rfl
  have c2 := cellAt hwd 2 (v := .int .i64 H.last) rfl
  have hhl := blockLt hwd
  have hlp := hok.last
  have HOK := Lib.hid hok
  have HP := Lib.hid hp
  have HS := Lib.hid hs
  have HL := Lib.hid hlen
  have f2 := frozenAt hwd 2
  obtain ⟨sa, scap, rfl, hsa⟩ := hs
  have hmal := hwm.lt
  have HW0 := Lib.hid (And.intro hW0 (And.intro eW0 (And.intro hh (And.intro hwd (And.intro hwm hz0)))))
  clear hh M hsa hlen hp hok hwd hwm eW0 hW0 hz0
  go_enter Try.func44, Try.ntmps44
  go_upto_region 4 with fail
  obtain ⟨W4, hW4⟩ : ∃ W4, ((w.setCell ⟨h, 2, none⟩ (.int .i64 (H.last + 1))).alloc (.cells #[.int .i64 0, .int .i64 0, .string ⟨#[]⟩] 26)) = W4 := ⟨_, rfl⟩
  rw [hW4]
  obtain ⟨gb, ge, gh, gd, gm, gz⟩ := HW0.out
  have hz4 : W4.heap.size = w.heap.size + 1 := by rw [← hW4]; simp
  have hd4 : W4.heap[h]? = some (.cells #[.map (some ma), .map (some mr), .int .i64 (H.last + 1)] 75) := by
    rw [← hW4]; exact blockAlloc (heap_setCell_same gd 2 _)
  have hm4 : mapIs W4 Try.prog 2 ekI exP ma obs := by
    rw [← hW4]; exact (gm.of_block (Below.heap_setCell _ _ _ _ (fun e => MM.out.ne e.symm))).alloc _
  have hr4 : W4.heap[w.heap.size]? = some (valObj V.zero) := by
    rw [← hW4]; have := heapAllocNew (w.setCell ⟨h, 2, none⟩ (.int .i64 (H.last + 1))) (valObj V.zero); rw [size_setCell] at this; exact this
  have hO4 : Outside [h, ma] W0 W4 := by
    have h1 : Outside [h, ma] w W4 := by rw [← hW4]; exact ((Outside.refl _ _).setCell (.inl (by simp)) _).alloc _
    refine ⟨h1.os.trans gb.os.symm, h1.tape.trans gb.tape.symm, h1.output.trans gb.output.symm, by omega, fun k hk hn => ?_⟩
    by_cases h9 : k < w.heap.size
    · rw [h1.block k h9 hn, gb.block k h9]
    · have e : k = w.heap.size := by omega
      rw [e, hr4, ← ge]; exact (heapAllocNew _ _).symm
  have a0 := cellAt hd4 0 (v := .map (some ma)) rfl
  have a2 := cellAt hd4 2 (v := .int .i64 (H.last + 1)) rfl
  obtain ⟨kl, hkl⟩ := keyOfI (okI_of ⟨by omega, hlast⟩ : okI (H.last + 1))
  have HU := Lib.hid (fun W (hW : Below W4.heap.size W4 W) => show ∃ f : Obj → World, ∀ o', (Instr.mapUpdate 72 (.map (some ma)) (.int .i64 (H.last + 1)) (.pointer (some ⟨W.heap.size, 0, none⟩))).run Try.prog (W.alloc o') = .ok () (f o') ∧
      mapIs (f o') Try.prog 2 ekI exP ma (obs ++ [(H.last + 1, W.heap.size)]) ∧ onlyAt (W.alloc o') (f o') ma from by
    have hmW : mapIs W Try.prog 2 ekI exP ma obs := hm4.of_block (hW.block ma hm4.lt)
    have := fun o' => (hmW.alloc o').update ekI_inj keyI Try.underlying72 hkl W.heap.size
    rw [putL_none _ MM.out.hno] at this
    exact ⟨fun o' => (this o').choose, fun o' => (this o').choose_spec⟩)
  have HI4 := Lib.hid (And.intro hO4 (And.intro hz4 (And.intro hd4 hr4)))
  clear hW4 hO4 hz4 hd4 hm4 hr4 hkl c0 c2 f2 gb ge gh gd gm gz
  go_cut [] (fun wx => MadeAt W0 h H o ma mr obs wx)
  case first =>
    go_region_law (go_simp; go_at_call 77; refine (dict_new _).mono ?_; rintro e w5 ⟨d, Fd, rfl, e1, e2, e3⟩; have hB5 : Below W4.heap.size W4 w5 := (by below_by e3); have A0 := cellBelow a0 hB5; have A2 := cellBelow a2 hB5; have hh5 := World.block_lt_of_cell? w5 _ A0; obtain ⟨f, hf⟩ := HU.out w5 hB5; have HFX := Lib.hid hf; have hrun := fun o => (hf o).1; clear hf)
    all_goals (go_wp2_with fail; go_meet)
    all_goals exact made_ok HI4.out.1 HI4.out.2.2.1 hmal (by have := HW0.out.2.2.2.2.2; have := HI4.out.2.1; omega) hB5 e1 e2 (HFX.out _).2.1 (HFX.out _).2.2 MM.out.ne
  case rest =>
    obtain ⟨d, ob, Fd, m1, m2, m3, m4, m5, m6, m7⟩ := hcut
    have hpost := MM.out.shut wc d ob Fd { o with items := [] } m1 m2 m3 m4 rfl HP.out m5 m6 m7
    obtain ⟨F1, g1, g2, g3⟩ := hpost
    have hres : wc.heap[w.heap.size]? = some (valObj V.zero) := by
      obtain ⟨gb, ge, gh, gd, gm, gz⟩ := HW0.out
      exact m7.keepB (by rw [← ge]; exact heapAllocNew _ _) (by simp only [List.mem_cons, List.not_mem_nil, or_false, not_or]; exact ⟨by omega, by omega⟩)
    have hsv : SeesV wc (.slice sa o.items.length scap) o.items := by
      obtain ⟨gb, ge, gh, gd, gm, gz⟩ := HW0.out
      exact (HS.out.keep (fun p v hp => cellBelow hp gb)).out MM.out.hd (by simp) (by simp) (by simp) MM.out.hm m7
    have c2 := cellAt m1 2 (v := .int .i64 (H.last + 1)) rfl
    have hF1 := g1.lt
    have HG := Lib.hid (And.intro g1 (And.intro g2 (And.intro g3 hF1)))
    obtain ⟨rv, hrk, hrn, hrs⟩ : ∃ rv : V, rv.kind = 4 ∧ rv.n = H.last + 1 ∧ rv.val = .agg #[.int .i64 4, .int .i64 (H.last + 1), .string ⟨#[]⟩] := ⟨V.ref (H.last + 1) (okI_of ⟨by omega, hlast⟩), rfl, rfl, rfl⟩
    have hW5 : Below wc.heap.size wc (wc.alloc (.cells #[.int .i64 4, .int .i64 (H.last + 1), .string ⟨#[]⟩] 26)) := belowAlloc _ _
    have hof := HeapM.add_of HOK.out { o with items := [] } rv hrk hrn
    have hrep : (H.add { o with items := [] }).replace rv 0 0 o.items = H.add o := by
      have e : (H.add { o with items := [] }).replace rv 0 0 o.items = (H.add { o with items := [] }).set rv.n { o with items := o.items } := by
        simp [HeapM.replace, hof]
      rw [e, hrn, HeapM.add_set HOK.out]
    have HR := heap_replace _ h rv 0 0 (.slice sa o.items.length scap) o.items (g1.below hW5) (hsv.keep fun p v hp => cellBelow hp hW5) (by
      rw [show (H.add { o with items := [] }).items rv = [] by simp [HeapM.items, hof]]
      have := HL.out; simpa using this)
    rw [hrep, hrs] at HR
    have HR := Lib.hid HR
    clear m1 m2 m3 m4 m5 m6 m7 hsv g1 g2 g3 hF1 hW5 hrk hrn hrs hof hrep
    go_wp2_with fail
    refine HR.out.mono ?_
    rintro e w7 ⟨rfl, F2, hh7, hg7, ho7⟩
    obtain ⟨g1, g2, g3, hF1⟩ := HG.out
    obtain ⟨gb, ge, gh, gd, gm, gz⟩ := HW0.out
    have hx7 : w7.heap[wc.heap.size]? = some (.cells #[.int .i64 4, .int .i64 (H.last + 1), .string ⟨#[]⟩] 26) := ho7.keepB (heapAllocNew wc _) (fun hm => by have := hF1 _ hm; omega)
    have hnr : w.heap.size ∉ F1 := fun hm => by
      rcases g2 _ hm with h | h
      · have := hFl _ h; omega
      · omega
    have hr7 : w7.heap[w.heap.size]? = some (valObj V.zero) := ho7.keepB (blockAlloc hres) hnr
    obtain ⟨x0, x1, x2, _⟩ := valBlk hx7
    obtain ⟨y0, y1, y2, y3, y4, y5⟩ := valBlkO hr7
    have HF := Lib.hid (And.intro hh7 (And.intro hg7 ho7))
    have hwl : w.heap.size < w7.heap.size := blockLt hr7
    have HWL := Lib.hid (And.intro hnr (And.intro gb gz))
    have hFl' := Lib.hid hFl
    clear hh7 hg7 ho7 g1 g2 g3 hF1 gb ge gh gd gm gz hx7 hr7 hres hnr hFl
    simp only [V.zero] at y0 y1 y2
    go_wp2
    refine bodyPost_ret (v := .agg #[.int .i64 4, .int .i64 (H.last + 1), .string ⟨#[]⟩]) (by simp [results, Try.results44, go_sem, y0, y1, y2]) rfl ⟨rfl, ?_⟩
    obtain ⟨hh7, hg7, ho7⟩ := HF.out
    obtain ⟨hnr, gb, gz⟩ := HWL.out
    obtain ⟨g1, g2, g3, hF1⟩ := HG.out
    have hset : Outside [w.heap.size] w7 (((w7.setCell ⟨w.heap.size, 0, none⟩ (.int .i64 4)).setCell ⟨w.heap.size, 1, none⟩ (.int .i64 (H.last + 1))).setCell ⟨w.heap.size, 2, none⟩ (.string ⟨#[]⟩)) :=
      (((Outside.refl _ _).setCell (.inl (by simp)) _).setCell (.inl (by simp)) _).setCell (.inl (by simp)) _
    have hz3 := g3.size
    have hz7 := ho7.size
    simp only [World.size_alloc] at hz7
    refine ⟨F2, hh7.outside hset ?_, ?_, ?_⟩
    · intro b hb e
      simp at e; subst e
      rcases hg7 _ hb with h | h
      · exact hnr h
      · simp only [World.size_alloc] at h; omega
    · intro b hb
      rcases hg7 b hb with h | h
      · rcases g2 b h with h | h
        · exact .inl h
        · exact .inr (by omega)
      · simp only [World.size_alloc] at h; exact .inr (by omega)
    · have t1 : Outside F w wc := (Outside.of_below gb F).trans g3 (Grow.refl _ _)
      have t2 : Outside F w w7 := (t1.alloc _).trans ho7 (fun b hb => by
        rcases g2 b hb with h | h
        · exact .inl h
        · exact .inr (by omega))
      exact t2.trans hset (fun b hb => by simp at hb; subst hb; exact .inr (Nat.le_refl _))
end Go.Proofs.Ytoancpjlkhijiaa
