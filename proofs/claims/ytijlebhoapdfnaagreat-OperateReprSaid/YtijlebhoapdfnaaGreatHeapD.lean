import Derived.Test.YtijlebhoapdfnaaGreatHeapC
/- The heap: Replace, joined. -/
set_option maxRecDepth 100000
set_option maxHeartbeats 1600000
namespace Go.Proofs.YtijlebhoapdfnaaGreat
set_option linter.unusedSimpArgs false
open Go.RowKit
set_option linter.unusedVariables false
theorem heap_replace (w : World) (h : Nat) (v : V) (i j : Int) (sv : Value) (l : List V) {H : HeapM} {ε : Int → Int} {F : List Nat} (hh : HeapIs w h H ε F) (hs : SeesV w sv l) (hlen : (H.items v).length + l.length ≤ 4194304) :
  Calls Tryz.prog 43 #[.pointer (some ⟨h, 0, none⟩), v.val, .int .i64 i, .int .i64 j, sv] w fun e w' => e = .returned (.bool (H.canReplace v i j)) ∧ HeapPost h (H.replace v i j l) ε F w w' := by
 cases g : H.of v with
 | none =>
  have HO := Lib.hid (hh.of_none g)
  have HH := Lib.hid hh
  have e1 : H.canReplace v i j = false := by simp [HeapM.canReplace, g]
  have e2 : H.replace v i j l = H := by simp [HeapM.replace, g]
  rw [e1, e2]
  obtain ⟨sa, scap, rfl, hsa⟩ := hs
  clear hh g e1 e2 hsa hlen
  simp only [V.val] at HO ⊢
  go_enter Tryz.func43, Tryz.ntmps43
  go_wp2_with (go_at_call 129; refine (HO.out _ belowA).mono ?_; rintro e w1 ⟨rfl, hb1⟩; have hB : Below w.heap.size w w1 := (by exact Below.next belowA hb1 (by (try simp only [World.size_alloc, size_drew, size_drewN, size_setCell]); omega)))
  go_ret
  exact ⟨rfl, HeapPost.same HH.out hB⟩
 | some o =>
  have hit : H.items v = o.items := by simp [HeapM.items, g]
  rw [hit] at hlen
  by_cases hin : 0 ≤ i ∧ i ≤ j ∧ j ≤ o.items.length
  ·
   have e1 : H.canReplace v i j = true := by simp [HeapM.canReplace, g, hin]
   have e2 : H.replace v i j l = H.set v.n { o with items := o.items.take i.toNat ++ l ++ o.items.drop j.toNat } := by simp [HeapM.replace, g, hin]
   rw [e1, e2]
   obtain ⟨a, rfl⟩ : ∃ a : Nat, i = a := ⟨i.toNat, by omega⟩
   obtain ⟨b, rfl⟩ : ∃ b : Nat, j = b := ⟨j.toNat, by omega⟩
   exact heap_replace_yes w h v a b sv l hh g hs (by omega) (by omega) hlen
  ·
   obtain ⟨ma, mr, b, d, rv, G, obs, r, O⟩ := hh.open g
   have HO := Lib.hid O.of
   have HK := Lib.hid O.cells
   have HH := Lib.hid hh
   have e1 : H.canReplace v i j = false := by simp [HeapM.canReplace, g, hin]
   have e2 : H.replace v i j l = H := by simp [HeapM.replace, g, hin]
   rw [e1, e2]
   obtain ⟨ra, rcap, hrv⟩ := O.hi.form
   subst hrv
   obtain ⟨sa, scap, rfl, hsa⟩ := hs
   clear hh g e1 e2 O hsa hlen hit
   simp only [V.val] at HO ⊢
   rcases Int.lt_or_le i 0 with hi0 | hi0
   ·
    clear hin
    go_enter Tryz.func43, Tryz.ntmps43
    go_wp2_with (go_at_call 129; refine (HO.out _ belowA).mono ?_; rintro e w1 ⟨rfl, hb1⟩; have hB : Below w.heap.size w w1 := (by exact Below.next belowA hb1 (by (try simp only [World.size_alloc, size_drew, size_drewN, size_setCell]); omega)); obtain ⟨k0, k1, k2, k3, k4⟩ := HK.out _ hB)
    go_ret
    exact ⟨rfl, HeapPost.same HH.out hB⟩
   ·
    rcases Int.lt_or_le j i with hj0 | hj0
    ·
     clear hin
     go_enter Tryz.func43, Tryz.ntmps43
     go_wp2_with (go_at_call 129; refine (HO.out _ belowA).mono ?_; rintro e w1 ⟨rfl, hb1⟩; have hB : Below w.heap.size w w1 := (by exact Below.next belowA hb1 (by (try simp only [World.size_alloc, size_drew, size_drewN, size_setCell]); omega)); obtain ⟨k0, k1, k2, k3, k4⟩ := HK.out _ hB)
     go_ret
     exact ⟨rfl, HeapPost.same HH.out hB⟩
    ·
     have hlt : (o.items.length : Int) < j := by omega
     clear hin
     go_enter Tryz.func43, Tryz.ntmps43
     go_wp2_with (go_at_call 129; refine (HO.out _ belowA).mono ?_; rintro e w1 ⟨rfl, hb1⟩; have hB : Below w.heap.size w w1 := (by exact Below.next belowA hb1 (by (try simp only [World.size_alloc, size_drew, size_drewN, size_setCell]); omega)); obtain ⟨k0, k1, k2, k3, k4⟩ := HK.out _ hB)
     go_ret
     exact ⟨rfl, HeapPost.same HH.out hB⟩
end Go.Proofs.YtijlebhoapdfnaaGreat
/- The heap: New; a new object. -/
namespace Go.Proofs.YtijlebhoapdfnaaGreat
set_option linter.unusedSimpArgs false
open Go.RowKit
set_option linter.unusedVariables false
/-- Numbers rise. -/
structure HeapM.Ok (H : HeapM) : Prop where
 asc : (H.objs.map (·.1)).Pairwise (· < ·)
 pos : ∀ p ∈ H.objs, 1 ≤ p.1 ∧ p.1 ≤ H.last
 last : 0 ≤ H.last
theorem heap_new (w : World) : Calls Tryz.prog 34 #[] w fun e w' => ∃ h F, e = .returned (.pointer (some ⟨h, 0, none⟩)) ∧ HeapIs w' h ⟨[], 0⟩ (fun _ => 0) F ∧ (∀ b ∈ F, w.heap.size ≤ b) ∧ Below w.heap.size w w' := by
 go_enter Tryz.func34, Tryz.ntmps34
 have hmk : ∀ w1 : World, (Instr.makeMap 150 none).run Tryz.prog w1 = .ok (.map (some w1.heap.size)) (w1.alloc (.map #[] 0)) := fun w1 => run_makeMap _ w1
 have hmk2 : ∀ w1 : World, (Instr.makeMap 151 none).run Tryz.prog w1 = .ok (.map (some w1.heap.size)) (w1.alloc (.map #[] 0)) := fun w1 => run_makeMap _ w1
 go_wp2
 go_ret
 refine ⟨w.heap.size + 1 + 1, [w.heap.size + 1 + 1, w.heap.size, w.heap.size + 1], rfl, ⟨w.heap.size, w.heap.size + 1, [], [], ?_, ((mapIs_made w _ _ _ _).alloc _).alloc _, ?_, by simp, rfl, rfl, by simp; omega, fun n => by simp [cntL, getL, allVals, cnt, wrap64]⟩, ?_, (((Below.refl _ _).alloc (Nat.le_refl _) _).alloc (by simp) _).alloc (by simp; omega) _⟩
 ·
  have := heapAllocNew ((w.alloc (.map #[] 0)).alloc (.map #[] 0)) (.cells #[.map (some w.heap.size), .map (some (w.heap.size + 1)), .int .i64 0] 153)
  rwa [World.size_alloc, World.size_alloc] at this
 ·
  have := (mapIs_made (w.alloc (.map #[] 0)) Tryz.prog 2 ekI exI).alloc (.cells #[.map (some w.heap.size), .map (some (w.heap.size + 1)), .int .i64 0] 153)
  rw [World.size_alloc] at this
  exact this
 ·
  intro b hb; simp at hb; omega
def HeapM.add (H : HeapM) (o : ObjM) : HeapM := ⟨H.objs ++ [(H.last + 1, o)], H.last + 1⟩
structure MakeAt (w : World) (h : Nat) (H : HeapM) (ε : Int → Int) (F : List Nat) (ma mr : Nat) (obs : List (Int × Nat)) : Prop where
 hd : w.heap[h]? = some (.cells #[.map (some ma), .map (some mr), .int .i64 H.last] 153)
 hm : mapIs w Tryz.prog 2 ekI exP ma obs
 hno : getL obs (H.last + 1) = none
 ne : h ≠ ma
 shut : ∀ (w' : World) (d ob : Nat) (Fd : List Nat) (o' : ObjM), w'.heap[h]? = some (.cells #[.map (some ma), .map (some mr), .int .i64 (H.last + 1)] 153) → mapIs w' Tryz.prog 2 ekI exP ma (obs ++ [(H.last + 1, ob)]) →
  w'.heap[ob]? = some (objBlock o' (.slice none 0 0) d) → DictIs w' d [] Fd → o'.items = [] → o'.pairs = [] → (ob :: Fd).Nodup → (∀ b ∈ ob :: Fd, w.heap.size ≤ b) → Outside [h, ma] w w' →
  HeapPost h (H.add o') ε F w w'
theorem HeapIs.make {w : World} {h : Nat} {H : HeapM} {ε : Int → Int} {F : List Nat} (hh : HeapIs w h H ε F) (hok : H.Ok) : ∃ ma mr obs, MakeAt w h H ε F ma mr obs := by
 have hlt := hh.lt
 obtain ⟨ma, mr, rows, r, h1, h2, h3, h4, h5, h6, h7, h8⟩ := hh
 have h7' := h7
 rw [h6] at h7'
 simp only [List.nodup_cons, List.mem_cons, not_or] at h7'
 obtain ⟨⟨n1, n2, n3⟩, ⟨n4, n5⟩, n6, n7⟩ := h7'
 refine ⟨ma, mr, _, h1, h2, ?_, n1, ?_⟩
 ·
  rw [getL_none]
  intro p hp e
  obtain ⟨q, hq, rfl⟩ := List.mem_map.1 hp
  have := (hok.pos (q.n, q.o) (by rw [h5]; exact List.mem_map.2 ⟨q, hq, rfl⟩)).2
  simp only at this e
  omega
 ·
  intro w' d ob Fd o' j1 j2 j3 j4 j5 j6 j7 j8 j9
  have hoth : ∀ x ∈ F, x ≠ h → x ≠ ma → w'.heap[x]? = w.heap[x]? := fun x hx e1 e2 => j9.block x (hlt x hx) (by simp [e1, e2])
  have hsubF : ∀ q ∈ rows, ∀ x ∈ q.F, x ∈ F ∧ x ≠ h ∧ x ≠ ma ∧ x ≠ mr := fun q hq x hx => by
   have hm : x ∈ rows.flatMap (·.F) := List.mem_flatMap.2 ⟨q, hq, hx⟩
   refine ⟨by rw [h6]; simp only [List.mem_cons]; exact .inr (.inr (.inr hm)), ?_, ?_, ?_⟩
   ·
    intro e; subst e; exact n3 hm
   ·
    intro e; subst e; exact n5 hm
   ·
    intro e; subst e; exact n6 hm
  refine ⟨h :: ma :: mr :: (rows ++ [(⟨H.last + 1, ob, o', ob :: Fd⟩ : HRow)]).flatMap (·.F), ⟨ma, mr, rows ++ [(⟨H.last + 1, ob, o', ob :: Fd⟩ : HRow)], r, j1, by simpa using j2, ?_, ?_, ?_, rfl, ?_, ?_⟩, ?_, ?_⟩
  ·
   exact h3.of_block (hoth mr (by rw [h6]; simp) (fun e => n2 e.symm) (fun e => n4 e.symm))
  ·
   intro q hq
   rcases List.mem_append.1 hq with hq | hq
   ·
    exact (h4 q hq).of_block fun x hx => hoth x (hsubF q hq x hx).1 (hsubF q hq x hx).2.1 (hsubF q hq x hx).2.2.1
   ·
    simp only [List.mem_singleton] at hq
    subst hq
    refine ⟨_, d, Fd, j3, ?_, ?_, by simp [Value.ownBlock], j7⟩
    ·
     show slIs _ _ _ _ _ o'.items
     rw [j5]; exact World.ownsRow_nil _ _ _ _
    ·
     show DictIs _ _ o'.pairs _
     rw [j6]; exact j4
  ·
   simp [HeapM.add, h5]
  ·
   have hfl : ∀ x ∈ h :: ma :: mr :: rows.flatMap (·.F), x < w.heap.size := fun x hx => hlt x (by rw [h6]; exact hx)
   have e : h :: ma :: mr :: (rows ++ [(⟨H.last + 1, ob, o', ob :: Fd⟩ : HRow)]).flatMap (·.F) = (h :: ma :: mr :: rows.flatMap (·.F)) ++ (ob :: Fd) := by simp
   rw [e]
   refine List.nodup_append.2 ⟨by rw [← h6]; exact h7, j7, fun a ha b hb e => ?_⟩
   subst e
   have := hfl a ha; have := j8 a hb; omega
  ·
   intro n
   rw [h8]
   simp [HeapM.add, allVals, ObjM.vals, j5, j6]
  ·
   intro x hx
   have e : h :: ma :: mr :: (rows ++ [(⟨H.last + 1, ob, o', ob :: Fd⟩ : HRow)]).flatMap (·.F) = (h :: ma :: mr :: rows.flatMap (·.F)) ++ (ob :: Fd) := by simp
   rw [e] at hx
   rcases List.mem_append.1 hx with hx | hx
   ·
    left; rw [h6]; exact hx
   ·
    exact .inr (j8 x hx)
  ·
   exact j9.mono fun x hx => by
    rw [h6]; simp only [List.mem_cons, List.not_mem_nil, or_false] at hx ⊢
    rcases hx with h | h <;> simp [h]
end Go.Proofs.YtijlebhoapdfnaaGreat
/- The heap: Make. -/
namespace Go.Proofs.YtijlebhoapdfnaaGreat
set_option linter.unusedSimpArgs false
open Go.RowKit
set_option linter.unusedVariables false
theorem okI_of {n : Int} (h : -9223372036854775808 ≤ n ∧ n ≤ 9223372036854775807) : okI n := by
 simp [okI, Lit.wf, IntKind.min, IntKind.max, IntKind.bits, IntKind.signed]; omega
/-- A slice of values lies in none of these blocks. -/
theorem SeesV.out {w w' : World} {sv : Value} {l : List V} {h ma : Nat} {a b c : Value} {t : TypeId} {obs : List (Int × Nat)} (hs : SeesV w sv l) (hd : w.heap[h]? = some (.cells #[a, b, c] t)) (ha : ∀ s, a ≠ .string s) (hb : ∀ s, b ≠ .string s) (hc : ∀ s, c ≠ .string s)
  (hm : mapIs w Tryz.prog 2 ekI exP ma obs) (ho : Outside [h, ma] w w') : SeesV w' sv l := by
 obtain ⟨p, cap, h1, h2, h3, h4⟩ := hs
 refine ⟨p, cap, h1, h2, h3, ?_⟩
 rcases h4 with h4 | ⟨g, o, h5, h6⟩
 ·
  exact .inl h4
 ·
  refine .inr ⟨g, o, h5, fun i v hv => ?_⟩
  obtain ⟨k0, k1, k2⟩ := h6 i v hv
  have hgh : g ≠ h := by
   intro e; subst e
   rw [cell_of_row w g _ _ t (0, 0) hd] at k2
   match hq : o + i * 3 + 2, k2 with
   | 0, k2 => simp at k2; exact ha _ k2
   | 1, k2 => simp at k2; exact hb _ k2
   | 2, k2 => simp at k2; exact hc _ k2
   | n + 3, k2 => simp at k2
  have hgm : g ≠ ma := hm.ne_cell k0
  exact ⟨ho.cell k0 (by simp [hgh, hgm]), ho.cell k1 (by simp [hgh, hgm]), ho.cell k2 (by simp [hgh, hgm])⟩
theorem HeapM.add_of {H : HeapM} (hok : H.Ok) (o : ObjM) (v : V) (hk : v.kind = 4) (hn : v.n = H.last + 1) : (H.add o).of v = some o := by
 unfold HeapM.of HeapM.add
 rw [if_pos hk, hn]
 refine getL_of_mem ?_ (by simp)
 rw [List.map_append]
 refine List.nodup_append.2 ⟨?_, by simp, ?_⟩
 ·
  exact hok.asc.imp fun h e => by omega
 ·
  intro a ha b hb e
  simp at hb; subst hb
  obtain ⟨p, hp, rfl⟩ := List.mem_map.1 ha
  have := (hok.pos p hp).2; omega
theorem HeapM.add_set {H : HeapM} (hok : H.Ok) (o o' : ObjM) : (H.add o).set (H.last + 1) o' = H.add o' := by
 unfold HeapM.set HeapM.add
 simp only [List.map_append, List.map_cons, List.map_nil, if_true]
 congr 2
 conv => rhs; rw [← List.map_id' H.objs]
 exact List.map_congr_left fun p hp => if_neg (by have := (hok.pos p hp).2; omega)
/-- A new object lies there, and is in the map. -/
def MadeAt (w : World) (h : Nat) (H : HeapM) (o : ObjM) (ma mr : Nat) (obs : List (Int × Nat)) (wx : World) : Prop :=
 ∃ d ob Fd, wx.heap[h]? = some (.cells #[.map (some ma), .map (some mr), .int .i64 (H.last + 1)] 153) ∧ mapIs wx Tryz.prog 2 ekI exP ma (obs ++ [(H.last + 1, ob)]) ∧ wx.heap[ob]? = some (objBlock o (.slice none 0 0) d) ∧ DictIs wx d [] Fd ∧
  (ob :: Fd).Nodup ∧ (∀ b ∈ ob :: Fd, w.heap.size ≤ b) ∧ Outside [h, ma] w wx
theorem made_ok {W0 W4 w5 wx : World} {h : Nat} {H : HeapM} {o : ObjM} {ma mr d : Nat} {obs : List (Int × Nat)} {Fd : List Nat} (hO4 : Outside [h, ma] W0 W4) (hd4 : W4.heap[h]? = some (.cells #[.map (some ma), .map (some mr), .int .i64 (H.last + 1)] 153)) {n : Nat} (hma : ma < n) (hz : n < W4.heap.size ∧ W0.heap.size = W4.heap.size)
  (hB5 : Below W4.heap.size W4 w5) (e1 : DictIs w5 d [] Fd) (e2 : ∀ b ∈ Fd, W4.heap.size ≤ b) (hm : mapIs wx Tryz.prog 2 ekI exP ma (obs ++ [(H.last + 1, w5.heap.size)])) (hon : onlyAt (w5.alloc (objBlock o (.slice none 0 0) d)) wx ma) (hne : h ≠ ma) : MadeAt W0 h H o ma mr obs wx := by
 have hz5 := hB5.size
 have hold : ∀ k, k < w5.heap.size → k ≠ ma → wx.heap[k]? = w5.heap[k]? := fun k hk h1 => (hon.2.block k (by simp; omega) (by simpa using h1)).trans (Below.heap_alloc _ _ _ hk)
 refine ⟨d, w5.heap.size, Fd, ?_, hm, ?_, ?_, ?_, ?_, ?_⟩
 ·
  have := blockLt hd4
  exact (hold h (by omega) hne).trans (blockBelow hd4 hB5)
 ·
  exact (hon.2.block _ (by simp) (by simp; omega)).trans (heapAllocNew _ _)
 ·
  exact e1.of_block fun b hb => hold b (e1.lt b hb) (by have := e2 b hb; omega)
 ·
  exact List.nodup_cons.2 ⟨fun hb => by have := e1.lt _ hb; omega, e1.nd⟩
 ·
  intro b hb
  rcases List.mem_cons.1 hb with rfl | hb
  ·
   omega
  ·
   have := e2 b hb; omega
 ·
  exact ((hO4.trans (Outside.of_below hB5 [h, ma]) (Grow.refl _ _)).alloc _).grown hon.2 (fun b hb => by cases hb; exact .inl (by simp))
def MakePost (h : Nat) (H : HeapM) (ε : Int → Int) (F : List Nat) (w : World) (o : ObjM) (e : Ending) (w' : World) : Prop :=
 e = .returned (.agg #[.int .i64 4, .int .i64 (H.last + 1), .string ⟨#[]⟩]) ∧ HeapPost h (H.add o) ε F w w'
theorem heap_make_yes (w : World) (h : Nat) (o : ObjM) (sv : Value) {H : HeapM} {ε : Int → Int} {F : List Nat} (hh : HeapIs w h H ε F) (hok : H.Ok) (hlast : H.last + 1 ≤ 9223372036854775807) (hs : SeesV w sv o.items) (hlen : o.items.length ≤ 4194304)
  (hp : o.pairs = []) (hk1 : 1 ≤ o.kind) (hk2 : o.kind ≤ 12) :
  Calls Tryz.prog 35 #[.pointer (some ⟨h, 0, none⟩), .int .i64 o.kind, .string o.name, .int .i64 o.num, sv] w (MakePost h H ε F w o) := by
 have hW0 : Below w.heap.size w (w.alloc (valObj V.zero)) := belowAlloc _ _
 obtain ⟨W0, eW0⟩ : ∃ W0, w.alloc (valObj V.zero) = W0 := ⟨_, rfl⟩
 have hz0 : W0.heap.size = w.heap.size + 1 := by rw [← eW0]; simp
 rw [eW0] at hW0
 obtain ⟨ma, mr, obs, M⟩ := (hh.below hW0).make hok
 have MM := Lib.hid M
 have hFl := hh.lt
 obtain ⟨hwd, hwm⟩ : w.heap[h]? = some (.cells #[.map (some ma), .map (some mr), .int .i64 H.last] 153) ∧ mapIs w Tryz.prog 2 ekI exP ma obs := by
  have e1 := M.hd
  have e2 := M.hm
  have k1 : ∀ k, k ≠ w.heap.size → W0.heap[k]? = w.heap[k]? := fun k hk => by
   by_cases h9 : k < w.heap.size
   ·
    exact hW0.block k h9
   ·
    rw [Array.getElem?_eq_none (by omega), Array.getElem?_eq_none (by omega)]
  have k2 : W0.heap[w.heap.size]? = some (valObj V.zero) := by rw [← eW0]; exact heapAllocNew _ _
  have n1 : h ≠ w.heap.size := by intro e; rw [e, k2] at e1; cases e1
  have n2 : ma ≠ w.heap.size := by intro e; obtain ⟨es, cl, e3, _⟩ := e2; rw [e, k2] at e3; cases e3
  exact ⟨(k1 h n1).symm.trans e1, e2.of_block (k1 ma n2).symm⟩
 have c0 := cellAt hwd 0 (v := .map (some ma)) rfl
 have c2 := cellAt hwd 2 (v := .int .i64 H.last) rfl
 have hhl := blockLt hwd
 have hlp := hok.last
 have HOK := Lib.hid hok
 have HP := Lib.hid hp
 have HS := Lib.hid hs
 have HL := Lib.hid hlen
 have f2 := frozenAt hwd 2
 obtain ⟨sa, scap, rfl, hsa⟩ := hs
 have hmal := hwm.lt
 have HW0 := Lib.hid (And.intro hW0 (And.intro eW0 (And.intro hh (And.intro hwd (And.intro hwm hz0)))))
 clear hh M hsa hlen hp hok hwd hwm eW0 hW0 hz0
 go_enter Tryz.func35, Tryz.ntmps35
 go_upto_region 4 with fail
 obtain ⟨W4, hW4⟩ : ∃ W4, ((w.setCell ⟨h, 2, none⟩ (.int .i64 (H.last + 1))).alloc (.cells #[.int .i64 0, .int .i64 0, .string ⟨#[]⟩] 24)) = W4 := ⟨_, rfl⟩
 rw [hW4]
 obtain ⟨gb, ge, gh, gd, gm, gz⟩ := HW0.out
 have hz4 : W4.heap.size = w.heap.size + 1 := by rw [← hW4]; simp
 have hd4 : W4.heap[h]? = some (.cells #[.map (some ma), .map (some mr), .int .i64 (H.last + 1)] 153) := by
  rw [← hW4]; exact blockAlloc (heap_setCell_same gd 2 _)
 have hm4 : mapIs W4 Tryz.prog 2 ekI exP ma obs := by
  rw [← hW4]; exact (gm.of_block (Below.heap_setCell _ _ _ _ (fun e => MM.out.ne e.symm))).alloc _
 have hr4 : W4.heap[w.heap.size]? = some (valObj V.zero) := by
  rw [← hW4]; have := heapAllocNew (w.setCell ⟨h, 2, none⟩ (.int .i64 (H.last + 1))) (valObj V.zero); rw [size_setCell] at this; exact this
 have hO4 : Outside [h, ma] W0 W4 := by
  have h1 : Outside [h, ma] w W4 := by rw [← hW4]; exact ((Outside.refl _ _).setCell (.inl (by simp)) _).alloc _
  refine ⟨h1.os.trans gb.os.symm, h1.tape.trans gb.tape.symm, h1.output.trans gb.output.symm, by omega, fun k hk hn => ?_⟩
  by_cases h9 : k < w.heap.size
  ·
   rw [h1.block k h9 hn, gb.block k h9]
  ·
   have e : k = w.heap.size := by omega
   rw [e, hr4, ← ge]; exact (heapAllocNew _ _).symm
 have a0 := cellAt hd4 0 (v := .map (some ma)) rfl
 have a2 := cellAt hd4 2 (v := .int .i64 (H.last + 1)) rfl
 obtain ⟨kl, hkl⟩ := keyOfI (okI_of ⟨by omega, hlast⟩ : okI (H.last + 1))
 have HU := Lib.hid (fun W (hW : Below W4.heap.size W4 W) => show ∃ f : Obj → World, ∀ o', (Instr.mapUpdate 150 (.map (some ma)) (.int .i64 (H.last + 1)) (.pointer (some ⟨W.heap.size, 0, none⟩))).run Tryz.prog (W.alloc o') = .ok () (f o') ∧
   mapIs (f o') Tryz.prog 2 ekI exP ma (obs ++ [(H.last + 1, W.heap.size)]) ∧ onlyAt (W.alloc o') (f o') ma from by
  have hmW : mapIs W Tryz.prog 2 ekI exP ma obs := hm4.of_block (hW.block ma hm4.lt)
  have := fun o' => (hmW.alloc o').update ekI_inj keyI Tryz.underlying150 hkl W.heap.size
  rw [putL_none _ MM.out.hno] at this
  exact ⟨fun o' => (this o').choose, fun o' => (this o').choose_spec⟩)
 have HI4 := Lib.hid (And.intro hO4 (And.intro hz4 (And.intro hd4 hr4)))
 clear hW4 hO4 hz4 hd4 hm4 hr4 hkl c0 c2 f2 gb ge gh gd gm gz
 go_cut [] (fun wx => MadeAt W0 h H o ma mr obs wx)
 case first =>
  go_region_law (go_simp; go_at_call 127; refine (dict_new _).mono ?_; rintro e w5 ⟨d, Fd, rfl, e1, e2, e3⟩; have hB5 : Below W4.heap.size W4 w5 := (by exact Below.next belowA e3 (by (try simp only [World.size_alloc, size_drew, size_drewN, size_setCell]); omega)); have A0 := cellBelow a0 hB5; have A2 := cellBelow a2 hB5; have hh5 := World.block_lt_of_cell? w5 _ A0; obtain ⟨f, hf⟩ := HU.out w5 hB5; have HFX := Lib.hid hf; have hrun := fun o => (hf o).1; clear hf)
  all_goals (go_wp2_with fail; go_meet)
  all_goals exact made_ok HI4.out.1 HI4.out.2.2.1 hmal (by have := HW0.out.2.2.2.2.2; have := HI4.out.2.1; omega) hB5 e1 e2 (HFX.out _).2.1 (HFX.out _).2.2 MM.out.ne
 case rest =>
  obtain ⟨d, ob, Fd, m1, m2, m3, m4, m5, m6, m7⟩ := hcut
  have hpost := MM.out.shut wc d ob Fd { o with items := [] } m1 m2 m3 m4 rfl HP.out m5 m6 m7
  obtain ⟨F1, g1, g2, g3⟩ := hpost
  have hres : wc.heap[w.heap.size]? = some (valObj V.zero) := by
   obtain ⟨gb, ge, gh, gd, gm, gz⟩ := HW0.out
   exact m7.keepB (by rw [← ge]; exact heapAllocNew _ _) (by simp only [List.mem_cons, List.not_mem_nil, or_false, not_or]; exact ⟨by omega, by omega⟩)
  have hsv : SeesV wc (.slice sa o.items.length scap) o.items := by
   obtain ⟨gb, ge, gh, gd, gm, gz⟩ := HW0.out
   exact (HS.out.keep (fun p v hp => cellBelow hp gb)).out MM.out.hd (by simp) (by simp) (by simp) MM.out.hm m7
  have c2 := cellAt m1 2 (v := .int .i64 (H.last + 1)) rfl
  have hF1 := g1.lt
  have HG := Lib.hid (And.intro g1 (And.intro g2 (And.intro g3 hF1)))
  obtain ⟨rv, hrk, hrn, hrs⟩ : ∃ rv : V, rv.kind = 4 ∧ rv.n = H.last + 1 ∧ rv.val = .agg #[.int .i64 4, .int .i64 (H.last + 1), .string ⟨#[]⟩] := ⟨V.ref (H.last + 1) (okI_of ⟨by omega, hlast⟩), rfl, rfl, rfl⟩
  have hW5 : Below wc.heap.size wc (wc.alloc (.cells #[.int .i64 4, .int .i64 (H.last + 1), .string ⟨#[]⟩] 24)) := belowAlloc _ _
  have hof := HeapM.add_of HOK.out { o with items := [] } rv hrk hrn
  have hrep : (H.add { o with items := [] }).replace rv 0 0 o.items = H.add o := by
   have e : (H.add { o with items := [] }).replace rv 0 0 o.items = (H.add { o with items := [] }).set rv.n { o with items := o.items } := by
    simp [HeapM.replace, hof]
   rw [e, hrn, HeapM.add_set HOK.out]
  have HR := heap_replace _ h rv 0 0 (.slice sa o.items.length scap) o.items (g1.below hW5) (hsv.keep fun p v hp => cellBelow hp hW5) (by
   rw [show (H.add { o with items := [] }).items rv = [] by simp [HeapM.items, hof]]
   have := HL.out; simpa using this)
  rw [hrep, hrs] at HR
  have HR := Lib.hid HR
  clear m1 m2 m3 m4 m5 m6 m7 hsv g1 g2 g3 hF1 hW5 hrk hrn hrs hof hrep
  go_wp2_with fail
  refine HR.out.mono ?_
  rintro e w7 ⟨rfl, F2, hh7, hg7, ho7⟩
  obtain ⟨g1, g2, g3, hF1⟩ := HG.out
  obtain ⟨gb, ge, gh, gd, gm, gz⟩ := HW0.out
  have hx7 : w7.heap[wc.heap.size]? = some (.cells #[.int .i64 4, .int .i64 (H.last + 1), .string ⟨#[]⟩] 24) := ho7.keepB (heapAllocNew wc _) (fun hm => by have := hF1 _ hm; omega)
  have hnr : w.heap.size ∉ F1 := fun hm => by
   rcases g2 _ hm with h | h
   ·
    have := hFl _ h; omega
   ·
    omega
  have hr7 : w7.heap[w.heap.size]? = some (valObj V.zero) := ho7.keepB (blockAlloc hres) hnr
  obtain ⟨x0, x1, x2, _⟩ := valBlk hx7
  obtain ⟨y0, y1, y2, y3, y4, y5⟩ := valBlkO hr7
  have HF := Lib.hid (And.intro hh7 (And.intro hg7 ho7))
  have hwl : w.heap.size < w7.heap.size := blockLt hr7
  have HWL := Lib.hid (And.intro hnr (And.intro gb gz))
  have hFl' := Lib.hid hFl
  clear hh7 hg7 ho7 g1 g2 g3 hF1 gb ge gh gd gm gz hx7 hr7 hres hnr hFl
  simp only [V.zero] at y0 y1 y2
  go_wp2
  refine bodyPost_ret (v := .agg #[.int .i64 4, .int .i64 (H.last + 1), .string ⟨#[]⟩]) (by simp [results, Tryz.results35, go_sem, y0, y1, y2]) rfl ⟨rfl, ?_⟩
  obtain ⟨hh7, hg7, ho7⟩ := HF.out
  obtain ⟨hnr, gb, gz⟩ := HWL.out
  obtain ⟨g1, g2, g3, hF1⟩ := HG.out
  have hset : Outside [w.heap.size] w7 (((w7.setCell ⟨w.heap.size, 0, none⟩ (.int .i64 4)).setCell ⟨w.heap.size, 1, none⟩ (.int .i64 (H.last + 1))).setCell ⟨w.heap.size, 2, none⟩ (.string ⟨#[]⟩)) :=
   (((Outside.refl _ _).setCell (.inl (by simp)) _).setCell (.inl (by simp)) _).setCell (.inl (by simp)) _
  have hz3 := g3.size
  have hz7 := ho7.size
  simp only [World.size_alloc] at hz7
  refine ⟨F2, hh7.outside hset ?_, ?_, ?_⟩
  ·
   intro b hb e
   simp at e; subst e
   rcases hg7 _ hb with h | h
   ·
    exact hnr h
   ·
    simp only [World.size_alloc] at h; omega
  ·
   intro b hb
   rcases hg7 b hb with h | h
   ·
    rcases g2 b h with h | h
    ·
     exact .inl h
    ·
     exact .inr (by omega)
   ·
    simp only [World.size_alloc] at h; exact .inr (by omega)
  ·
   have t1 : Outside F w wc := (Outside.of_below gb F).trans g3 (Grow.refl _ _)
   have t2 : Outside F w w7 := (t1.alloc _).trans ho7 (fun b hb => by
    rcases g2 b hb with h | h
    ·
     exact .inl h
    ·
     exact .inr (by omega))
   exact t2.trans hset (fun b hb => by simp at hb; subst hb; exact .inr (Nat.le_refl _))
end Go.Proofs.YtijlebhoapdfnaaGreat
/- The heap: Make of no kind; drop, Free. -/
namespace Go.Proofs.YtijlebhoapdfnaaGreat
set_option linter.unusedSimpArgs false
open Go.RowKit
set_option linter.unusedVariables false
def HeapM.drop (H : HeapM) (n : Int) : HeapM := { H with objs := delL H.objs n }
theorem cnt_delObj {l : List (Int × ObjM)} (hn : (l.map (·.1)).Nodup) {n : Int} {o : ObjM} (g : getL l n = some o) (m : Int) : cnt (allVals (delL l n)) m = cnt (allVals l) m - cnt o.vals m := by
 induction l with
 | nil => simp [getL] at g
 | cons p r ih =>
  simp only [List.map_cons, List.nodup_cons] at hn
  have hc : ∀ q : Int × ObjM, ∀ l, allVals (q :: l) = q.2.vals ++ allVals l := fun q l => by simp [allVals]
  by_cases e : p.1 = n
  ·
   have hd : delL (p :: r) n = r := by
    have h1 : delL (p :: r) n = delL r n := by simp [delL, e]
    rw [h1]
    refine delL_none ?_
    rw [getL_none]
    intro q hq e'
    exact hn.1 (List.mem_map.2 ⟨q, hq, e'.trans e.symm⟩)
   have : p.2 = o := by simpa [getL, e] using g
   rw [hd, hc, cnt_append, this]; omega
  ·
   have g' : getL r n = some o := by simpa [getL, e] using g
   have hd : delL (p :: r) n = p :: delL r n := by simp [delL, e]
   rw [hd, hc, hc, cnt_append, cnt_append, ih hn.2 g']; omega
end Go.Proofs.YtijlebhoapdfnaaGreat
