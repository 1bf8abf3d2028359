import Derived.Test.YtijlebhoapdfnaaGreatHeapA
import Derived.Test.YtijlebhoapdfnaaGreatDictD
import Derived.Deep.DeepCutAuto
import Derived.StillTailTactics
/- The heap: an object's values. -/
set_option maxRecDepth 100000
set_option maxHeartbeats 1600000
namespace Go.Proofs.YtijlebhoapdfnaaGreat
set_option linter.unusedSimpArgs false
open Go.RowKit
set_option linter.unusedVariables false
attribute [local go_sem] Oper.semAt_some
end Go.Proofs.YtijlebhoapdfnaaGreat
/- The heap: Keys, Refs. -/
namespace Go.Proofs.YtijlebhoapdfnaaGreat
set_option linter.unusedSimpArgs false
open Go.RowKit
set_option linter.unusedVariables false
def intCell (n : Int) : List Value := [.int .i64 n]
theorem intCell_len (n : Int) : (intCell n).length = 1 := rfl
theorem info_int64 : (Tryz.prog.info? 2).map (fun i => (i.zero, i.size, i.bytes)) = some (some (.int .i64 0), 1, 8) := by kernel_rfl
theorem heap_keys (w : World) (h : Nat) (v : V) {H : HeapM} {ε : Int → Int} {F : List Nat} (hh : HeapIs w h H ε F) :
  Calls Tryz.prog 79 #[.pointer (some ⟨h, 0, none⟩), v.val] w (KeysPost (H.pairs v) w) := by
 cases g : H.of v with
 | none =>
  have HO := Lib.hid (hh.of_none g)
  have HE := Lib.hid (show H.pairs v = [] by simp [HeapM.pairs, g])
  clear hh g
  rw [HE.out]
  simp only [V.val] at HO ⊢
  go_enter Tryz.func79, Tryz.ntmps79
  go_wp2_with (go_at_call 129; refine (HO.out _ belowA).mono ?_; rintro e w1 ⟨rfl, hb1⟩)
  go_ret
  exact ⟨_, rfl, World.ownsRow_nil _ _ _ _, by simp [Value.ownBlock], by exact Below.next belowA hb1 (by (try simp only [World.size_alloc, size_drew, size_drewN, size_setCell]); omega)⟩
 | some o =>
  obtain ⟨ma, mr, b, d, rv, G, obs, r, O⟩ := hh.open g
  have HO := Lib.hid O.of
  have HK := Lib.hid O.cells
  have HE := Lib.hid (show H.pairs v = o.pairs by simp [HeapM.pairs, g])
  rw [HE.out]
  have HD := Lib.hid (fun W (hW : Below w.heap.size w W) => dict_keys W d o.pairs G (O.hdict.below hW))
  clear hh g O
  simp only [V.val] at HO ⊢
  go_enter Tryz.func79, Tryz.ntmps79
  go_wp2_with (go_at_call 129; refine (HO.out _ belowA).mono ?_; rintro e w1 ⟨rfl, hb1⟩; have hB : Below w.heap.size w w1 := (by exact Below.next belowA hb1 (by (try simp only [World.size_alloc, size_drew, size_drewN, size_setCell]); omega)); obtain ⟨k0, k1, k2, k3, k4⟩ := HK.out _ hB)
  go_wp2_with (go_at_call 153; refine (HD.out _ belowA).mono ?_; rintro e w2 ⟨sv, rfl, hs, hsn, hb2⟩)
  go_ret
  exact ⟨_, rfl, hs, fun b hb => Nat.le_trans hB.size (hsn b hb), Below.next hB hb2 hB.size⟩
/-- The numbers of what an object holds. -/
def HeapM.refNs (H : HeapM) (v : V) : List Int := match H.of v with | some o => (H.refs o).map (·.n) | none => []
def RefsPost (l : List Int) (w : World) (e : Ending) (w' : World) : Prop := ∃ sv, e = .returned sv ∧ slIs w' 2 1 intCell sv l ∧ (∀ b, sv.ownBlock = some b → w.heap.size ≤ b) ∧ Below w.heap.size w w'
end Go.Proofs.YtijlebhoapdfnaaGreat
/- The heap: SetAt. -/
namespace Go.Proofs.YtijlebhoapdfnaaGreat
set_option linter.unusedSimpArgs false
open Go.RowKit
set_option linter.unusedVariables false
theorem seesOne {w : World} {b : Nat} {x : V} (h : w.heap[b]? = some (.cells #[.int .i64 x.kind, .int .i64 x.n, .string x.s] 24)) : SeesV w (.slice (some ⟨b, 0, none⟩) 1 1) [x] := by
 obtain ⟨p0, p1, p2, _⟩ := valBlk h
 refine ⟨_, 1, rfl, by simp, by decide, .inr ⟨b, 0, rfl, fun i v hv => ?_⟩⟩
 cases i with
 | zero => simp at hv; subst hv; exact ⟨p0, p1, p2⟩
 | succ i => simp at hv
section
variable {w : World} {h : Nat} {H : HeapM} {ε : Int → Int} {F : List Nat} {v : V} {o : ObjM} {ma mr b d : Nat} {rv : Value} {G : List Nat} {obs : List (Int × Nat)} {r : List (Int × Int)}
theorem OpenAt.keep (O : OpenAt w h H ε F v o ma mr b d rv G obs r) {W : World} (hW : Outside [mr] w W) {p : Addr} {u : Value} (hp : w.cell? p = some u) : W.cell? p = some u := hW.cell hp (by simpa using O.hr.ne_cell hp)
theorem OpenAt.c1 (O : OpenAt w h H ε F v o ma mr b d rv G obs r) : w.cell? ⟨h, 1, none⟩ = some (.map (some mr)) := cellAt O.hd 1 rfl
theorem OpenAt.k3 (O : OpenAt w h H ε F v o ma mr b d rv G obs r) : w.cell? ⟨b, 3, none⟩ = some rv := by have ho := O.ho; unfold objBlock at ho; exact cellAt ho 3 rfl
theorem OpenAt.k4 (O : OpenAt w h H ε F v o ma mr b d rv G obs r) : w.cell? ⟨b, 4, none⟩ = some (.pointer (some ⟨d, 0, none⟩)) := by have ho := O.ho; unfold objBlock at ho; exact cellAt ho 4 rfl
end
theorem Outside.keepB {F : List Nat} {w w' : World} (h : Outside F w w') {b : Nat} {o : Obj} (hb : w.heap[b]? = some o) (hn : b ∉ F) : w'.heap[b]? = some o := (h.block b (blockLt hb) hn).trans hb
theorem cnt_set_item {l : List V} {n : Nat} {y : V} (h : l[n]? = some y) (x : V) (m : Int) : cnt (l.set n x) m = cnt l m - cnt [y] m + cnt [x] m := by
 induction l generalizing n with
 | nil => simp at h
 | cons a l ih =>
  cases n with
  | zero => simp at h; subst h; simp only [List.set_cons_zero, cnt_cons, cnt_nil]; omega
  | succ n => simp at h; simp only [List.set_cons_succ, cnt_cons a, ih h]; omega
def HeapPost (h : Nat) (H' : HeapM) (ε : Int → Int) (F : List Nat) (w w' : World) : Prop := ∃ F', HeapIs w' h H' ε F' ∧ Grow F F' w ∧ Outside F w w'
theorem HeapPost.same {h : Nat} {H : HeapM} {ε : Int → Int} {F : List Nat} {w w' : World} (hh : HeapIs w h H ε F) (hb : Below w.heap.size w w') : HeapPost h H ε F w w' := ⟨F, hh.below hb, Grow.refl _ _, Outside.of_below hb _⟩
end Go.Proofs.YtijlebhoapdfnaaGreat
/- The heap: Put. -/
namespace Go.Proofs.YtijlebhoapdfnaaGreat
set_option linter.unusedSimpArgs false
open Go.RowKit
set_option linter.unusedVariables false
def valObj (x : V) : Obj := .cells #[.int .i64 x.kind, .int .i64 x.n, .string x.s] 24
theorem valBlkO {w : World} {b : Nat} {x : V} (h : w.heap[b]? = some (valObj x)) : w.cell? ⟨b, 0, none⟩ = some (.int .i64 x.kind) ∧ w.cell? ⟨b, 1, none⟩ = some (.int .i64 x.n) ∧ w.cell? ⟨b, 2, none⟩ = some (.string x.s) ∧ w.frozen? ⟨b, 0, none⟩ = false ∧ w.frozen? ⟨b, 1, none⟩ = false ∧ w.frozen? ⟨b, 2, none⟩ = false := valBlk h
/-- What was looked up lies at q. -/
def WasAt (w1 : World) (was : V) (has : Bool) (s10 s11 : Value) (wx : World) : Prop :=
 ∃ q, s10 = .pointer (some ⟨q, 0, none⟩) ∧ s11 = .bool has ∧ wx.heap[q]? = some (valObj was) ∧ w1.heap.size ≤ q ∧ Below w1.heap.size w1 wx
theorem wasB {w1 w2 : World} {was : V} {has : Bool} (hb2 : Below w1.drew.heap.size w1.drew w2) :
  WasAt w1 was has (.pointer (some ⟨w2.heap.size, 0, none⟩)) (.bool has) (w2.alloc (.cells #[.int .i64 was.kind, .int .i64 was.n, .string was.s] 24)) := by
 have h1 : Below w1.heap.size w1 w2 := Below.next (Below.drew (Below.refl _ _)) hb2 (Nat.le_refl _)
 exact ⟨_, rfl, rfl, heapAllocNew w2 _, h1.size, h1.alloc h1.size _⟩
theorem wasA {w1 w2 : World} {was : V} {has : Bool} (hb2 : Below (w1.alloc (.cells #[.int .i64 0, .int .i64 0, .string ⟨#[]⟩] 24)).drew.heap.size (w1.alloc (.cells #[.int .i64 0, .int .i64 0, .string ⟨#[]⟩] 24)).drew w2) :
  WasAt w1 was has (.pointer (some ⟨w1.heap.size, 0, none⟩)) (.bool has) (((w2.setCell ⟨w1.heap.size, 0, none⟩ (.int .i64 was.kind)).setCell ⟨w1.heap.size, 1, none⟩ (.int .i64 was.n)).setCell ⟨w1.heap.size, 2, none⟩ (.string was.s)) := by
 have h1 : Below w1.heap.size w1 w2 := Below.next (Below.drew (belowAlloc w1 _)) hb2 (by show w1.heap.size ≤ (w1.alloc _).heap.size; simp)
 have hq : w2.heap[w1.heap.size]? = some (.cells #[.int .i64 0, .int .i64 0, .string ⟨#[]⟩] 24) := (hb2.block _ (by show w1.heap.size < (w1.alloc _).heap.size; simp)).trans (heapAllocNew w1 _)
 exact ⟨_, rfl, rfl, heap_setCell_same (heap_setCell_same (heap_setCell_same hq 0 _) 1 _) 2 _, Nat.le_refl _, ((h1.setCell (Nat.le_refl _) _).setCell (Nat.le_refl _) _).setCell (Nat.le_refl _) _⟩
theorem cnt_putL_some {l : List (V × V)} (hn : (l.map (·.1)).Nodup) {k y : V} (g : getL l k = some y) (x : V) (m : Int) : cnt ((putL l k x).map (·.2)) m = cnt (l.map (·.2)) m - cnt [y] m + cnt [x] m := by
 obtain ⟨j, hj⟩ := List.getElem?_of_mem (getL_mem g)
 rw [putL_some x g, ← set_eq_map hn hj, List.map_set]
 exact cnt_set_item (by rw [List.getElem?_map, hj]; rfl) x m
theorem cnt_putL_none {l : List (V × V)} {k : V} (g : getL l k = none) (x : V) (m : Int) : cnt ((putL l k x).map (·.2)) m = cnt (l.map (·.2)) m + cnt [x] m := by
 rw [putL_none x g, List.map_append, cnt_append]; rfl
theorem dict_put_false (w : World) (d : Nat) (L : List (V × V)) (F : List Nat) (k x : V) (h : DictIs w d L F) (hp : putOk L k = false) : Calls Tryz.prog 134 #[.pointer (some ⟨d, 0, none⟩), k.val, x.val] w fun e w' =>
  e = .returned (.bool false) ∧ Below w.heap.size w w' := by
 have h4 : L.length ≤ 4096 := by obtain ⟨m, rv, rows, tb, hd, hm, hr, hL, hn, hat, hlen, rfl, hnd, h4, h5⟩ := h; exact h4
 unfold putOk at hp
 cases hg : getL L k with
 | some y => rw [hg] at hp; simp at hp
 | none =>
  rw [hg] at hp
  refine dict_put_no w d L F k x h hg ?_
  cases hk : k.isKey with
  | false => exact .inl rfl
  | true => rw [hk] at hp; simp at hp; exact .inr (by omega)
theorem DictIs.nodup {w : World} {d : Nat} {L : List (V × V)} {F : List Nat} (h : DictIs w d L F) : (L.map (·.1)).Nodup := by
 obtain ⟨m, rv, rows, tb, hd, hm, hr, hL, hn, hat, hlen, rfl, hnd, h4, h5⟩ := h; exact hn
theorem DictIs.nd {w : World} {d : Nat} {L : List (V × V)} {F : List Nat} (h : DictIs w d L F) : F.Nodup := by
 obtain ⟨m, rv, rows, tb, hd, hm, hr, hL, hn, hat, hlen, rfl, hnd, h4, h5⟩ := h; exact hnd
def HeapM.put (H : HeapM) (v k x : V) : HeapM := match H.of v with | some o => if putOk o.pairs k then H.set v.n { o with pairs := putL o.pairs k x } else H | none => H
def HeapM.canPut (H : HeapM) (v k : V) : Bool := match H.of v with | some o => putOk o.pairs k | none => false
section
variable {w : World} {h : Nat} {H : HeapM} {ε : Int → Int} {F : List Nat} {v : V} {o : ObjM} {ma mr b d : Nat} {rv : Value} {G : List Nat} {obs : List (Int × Nat)} {r : List (Int × Int)}
/-- A dict was changed, and the counts. -/
theorem put_shut (O : OpenAt w h H ε F v o ma mr b d rv G obs r) {w' : World} {wc : World} {L' : List (V × V)} {G' : List Nat} {r' : List (Int × Int)} (hO : Outside (mr :: G) w w') (hm : mapIs w' Tryz.prog 2 ekI exI mr r') (hd : DictIs w' d L' G') (hg : Grow G G' wc)
  (hr : ∀ m, cntL r' m = wrap64 (cnt (allVals H.objs) m - cnt (o.pairs.map (·.2)) m + cnt (L'.map (·.2)) m + ε m)) (hwc : w.heap.size ≤ wc.heap.size := by omega) : HeapPost h (H.set v.n { o with pairs := L' }) ε F w w' := by
 have nd := O.nd
 have hgw : Grow G G' w := fun y hy => by rcases hg y hy with h | h; exact .inl h; exact .inr (by omega)
 have hlt : ∀ y ∈ rv.ownBlock.toList, y < w.heap.size := fun y hy => O.hi.lt y (by simpa using hy)
 simp only [List.cons_append, List.nodup_cons, List.mem_cons, List.mem_append, List.nodup_append, not_or] at nd
 obtain ⟨⟨a1, a2, a3, a4, a5⟩, ⟨b1, b2, b3, b4⟩, ⟨c1, c2, c3⟩, ⟨d1, d2⟩, e1, e2, e3⟩ := nd
 refine O.shut w' { o with pairs := L' } rv G' r' ε ?_ ?_ hd hm (O.counts _ fun m => ?_) ?_ ?_ (hO.mono fun y hy => ?_)
 ·
  exact (hO.block b (blockLt O.ho) (by simp only [List.mem_cons, not_or]; exact ⟨fun e => c1 e.symm, d2⟩)).trans O.ho
 ·
  refine O.hi.of_block fun g hg => hO.block g (O.hi.lt g hg) ?_
  simp only [List.mem_cons, not_or]
  exact ⟨fun e => c2 (by rw [← e]; simpa using hg), fun hG => e3 g (by simpa using hg) g hG rfl⟩
 ·
  rw [hr]
  congr 1
  have h1 : cnt ({ o with pairs := L' } : ObjM).vals m = cnt o.items m + cnt (L'.map (·.2)) m := cnt_append _ _ _
  have h2 : cnt o.vals m = cnt o.items m + cnt (o.pairs.map (·.2)) m := cnt_append _ _ _
  omega
 ·
  simp only [List.cons_append, List.nodup_cons, List.mem_append, List.nodup_append, not_or]
  refine ⟨⟨d1, fun h => ?_⟩, e1, hd.nd, fun y hy z hz e => ?_⟩
  ·
   rcases hgw b h with h | h
   ·
    exact d2 h
   ·
    have := blockLt O.ho; omega
  ·
   subst e
   rcases hgw y hz with h | h
   ·
    exact e3 y hy y h rfl
   ·
    have := hlt y hy; omega
 ·
  intro y hy
  simp only [List.cons_append, List.mem_cons, List.mem_append] at hy ⊢
  rcases hy with h | h | h
  ·
   exact .inl (.inl h)
  ·
   exact .inl (.inr (.inl h))
  ·
   rcases hgw y h with h | h
   ·
    exact .inl (.inr (.inr h))
   ·
    exact .inr h
 ·
  simp only [List.cons_append, List.mem_cons, List.mem_append] at hy ⊢
  rcases hy with h | h
  ·
   exact .inl h
  ·
   exact .inr (.inr (.inr h))
end
def PutPost (h : Nat) (H : HeapM) (ε : Int → Int) (F : List Nat) (w : World) (v k x : V) (o : ObjM) (e : Ending) (w' : World) : Prop :=
 e = .returned (.bool (putOk o.pairs k)) ∧ HeapPost h (if putOk o.pairs k then H.set v.n { o with pairs := putL o.pairs k x } else H) ε F w w'
theorem heap_put (w : World) (h : Nat) (v k x : V) {H : HeapM} {ε : Int → Int} {F : List Nat} (hh : HeapIs w h H ε F) :
  Calls Tryz.prog 45 #[.pointer (some ⟨h, 0, none⟩), v.val, k.val, x.val] w fun e w' => e = .returned (.bool (H.canPut v k)) ∧ HeapPost h (H.put v k x) ε F w w' := by
 cases g : H.of v with
 | none =>
  have HO := Lib.hid (hh.of_none g)
  have HH := Lib.hid hh
  have e1 : H.canPut v k = false := by simp [HeapM.canPut, g]
  have e2 : H.put v k x = H := by simp [HeapM.put, g]
  rw [e1, e2]
  clear hh g e1 e2
  simp only [V.val] at HO ⊢
  go_enter Tryz.func45, Tryz.ntmps45
  go_wp2_with (go_at_call 129; refine (HO.out _ belowA).mono ?_; rintro e w1 ⟨rfl, hb1⟩; have hB : Below w.heap.size w w1 := (by exact Below.next belowA hb1 (by (try simp only [World.size_alloc, size_drew, size_drewN, size_setCell]); omega)))
  go_ret
  exact ⟨rfl, HeapPost.same HH.out hB⟩
 | some o =>
  obtain ⟨ma, mr, b, d, rv, G, obs, r, O⟩ := hh.open g
  have HO := Lib.hid O.of
  have HK := Lib.hid O.cells
  have HH := Lib.hid hh
  have OO := Lib.hid O
  have e1 := Lib.hid (show H.canPut v k = putOk o.pairs k by simp [HeapM.canPut, g])
  have e2 := Lib.hid (show H.put v k x = if putOk o.pairs k then H.set v.n { o with pairs := putL o.pairs k x } else H by simp [HeapM.put, g])
  rw [e1.out, e2.out]
  show Calls _ _ _ _ (PutPost h H ε F w v k x o)
  have HG := Lib.hid (fun W (hW : Below w.heap.size w W) => dict_get W d o.pairs G k (O.hdict.below hW))
  have k4 := O.k4
  obtain ⟨was, hwas⟩ : ∃ was, (getL o.pairs k).getD V.zero = was := ⟨_, rfl⟩
  obtain ⟨has, hhas⟩ : ∃ has, (getL o.pairs k).isSome = has := ⟨_, rfl⟩
  rw [hwas, hhas] at HG
  have HW := Lib.hid hwas
  have HA := Lib.hid hhas
  clear hh g O hwas hhas
  simp only [V.val] at HO HG ⊢
  go_enter Tryz.func45, Tryz.ntmps45
  go_upto_region 4 with (go_at_call 129; refine (HO.out _ belowA).mono ?_; rintro e w1 ⟨rfl, hb1⟩)
  have hB : Below w.heap.size w w1 := by exact Below.next belowA hb1 (by (try simp only [World.size_alloc, size_drew, size_drewN, size_setCell]); omega)
  have K4 := cellBelow k4 hB
  have hx1 : w1.heap[w.heap.size + 2]? = some (valObj x) := by have := boxAt hb1; simp only [World.size_alloc] at this; exact this
  have hk1 : w1.heap[w.heap.size + 1]? = some (valObj k) := by
   refine (hb1.block _ (by simp only [World.size_alloc]; omega)).trans ?_
   refine (Below.heap_alloc _ _ _ (by simp only [World.size_alloc]; omega)).trans ?_
   have := heapAllocNew (w.alloc (valObj v)) (valObj k)
   rwa [World.size_alloc] at this
  obtain ⟨p0, p1, p2, _⟩ := valBlkO hk1
  have hz : w.heap.size + 2 < w1.heap.size := blockLt hx1
  have hz1 : w.heap.size + 1 < w1.heap.size := blockLt hk1
  have hbl : b < w1.heap.size := World.block_lt_of_cell? w1 _ K4
  go_cut [10, 11] (fun s10 s11 wx => WasAt w1 was has s10 s11 wx)
  case first =>
   go_region_with (go_at_call 133; (refine (HG.out _ belowA).mono ?_; rintro e w2 ⟨rfl, hb2⟩; have hB2 : Below w.heap.size w w2 := (by exact Below.next belowA hb2 (by (try simp only [World.size_alloc, size_drew, size_drewN, size_setCell]); omega)); obtain ⟨hc2, hf2⟩ := bcell hb2))
   all_goals (go_wp2_with fail; go_meet)
   all_goals first | exact wasB hb2 | exact wasA hb2
  case rest =>
   obtain ⟨q, rfl, rfl, hq, hq2, hb3⟩ := hcut
   clear p0 p1 p2
   have hB3 : Below w.heap.size w wc := Below.next hB hb3 hB.size
   have hk3 := blockBelow hk1 hb3
   have hx3 := blockBelow hx1 hb3
   obtain ⟨p0, p1, p2, _⟩ := valBlkO hk3
   obtain ⟨r0, r1, r2, _⟩ := valBlkO hx3
   have K5 := cellBelow k4 hB3
   have hz3 := hB3.size
   go_wp2_with fail
   have hmrG : mr ∉ G ∧ h ∉ G ∧ mr < w.heap.size ∧ h < w.heap.size ∧ h ≠ mr ∧ (∀ y ∈ G, y < w.heap.size) := by
    have O := OO.out
    have nd := O.nd
    simp only [List.cons_append, List.nodup_cons, List.mem_cons, List.mem_append, not_or] at nd
    exact ⟨nd.2.2.1.2.2, nd.1.2.2.2.2, O.hr.lt, World.block_lt_of_cell? w _ O.c1, nd.1.2.1, O.hdict.lt⟩
   obtain ⟨n1, n2, n3, n4, n5, n6⟩ := hmrG
   cases hok : putOk o.pairs k with
   | false =>
    have HP := Lib.hid (fun W (hW : Below w.heap.size w W) => dict_put_false W d o.pairs G k x (OO.out.hdict.below hW) hok)
    have HK2 := Lib.hid hok
    clear hok
    simp only [V.val] at HP
    go_still_tail 6, (by kernel_rfl)
    change wpList _ _ _ _ _ wc.drew
    go_wp2_with (go_at_call 134; refine (HP.out _ belowA).mono ?_; rintro e w5 ⟨rfl, hb5⟩)
    go_ret
    unfold PutPost
    rw [HK2.out]
    exact ⟨rfl, HeapPost.same HH.out (by exact Below.next belowA hb5 (by (try simp only [World.size_alloc, size_drew, size_drewN, size_setCell]); omega))⟩
   | true =>
    have HP := Lib.hid (fun W (hW : Below w.heap.size w W) => dict_put W d o.pairs G k x (OO.out.hdict.below hW))
    rw [hok] at HP
    have HK2 := Lib.hid hok
    clear hok
    simp only [V.val, if_true] at HP
    go_still_tail 6, (by kernel_rfl)
    change wpList _ _ _ _ _ wc.drew
    go_wp2_with fail
    refine (HP.out _ belowA).mono ?_
    rintro e w5 ⟨rfl, G', hd5, hg5, ho5⟩
    have hO5 : Outside G w w5 := (Outside.of_below (show Below w.heap.size w wc.drew by exact belowA) G).trans ho5 (Grow.refl _ _)
    have hqG : ∀ y, w.heap.size ≤ y → y ∉ G := fun y hy hG => by have := n6 y hG; omega
    have hq5 : w5.heap[q]? = some (valObj was) := ho5.keepB (show wc.drew.heap[q]? = _ from hq) (hqG q (by have := hB.size; omega))
    have hx5 : w5.heap[w.heap.size + 2]? = some (valObj x) := ho5.keepB (show wc.drew.heap[w.heap.size + 2]? = _ from hx3) (hqG _ (by omega))
    have c5 : w5.cell? ⟨h, 1, none⟩ = some (.map (some mr)) := hO5.cell OO.out.c1 n2
    have hm5 : mapIs w5 Tryz.prog 2 ekI exI mr r := OO.out.hr.of_block (hO5.block mr n3 n1)
    clear p0 p1 p2 r0 r1 r2
    obtain ⟨r0, r1, r2, _⟩ := valBlkO hx5
    have hz5 : w.heap.size + 2 < w5.heap.size := blockLt hx5
    go_wp2_with fail
    have hO5a := Lib.hid hO5
    refine (heap_hold _ h mr 1 _ [x] r ((hO5.alloc _).cell OO.out.c1 n2) (hm5.alloc _) (seesOne (heapAllocNew w5 _))).mono ?_
    rintro e w6 ⟨⟨_, rfl⟩, hm6, ho6⟩
    have hO6 : Outside (mr :: G) w w6 := ((hO5.alloc _).mono (fun y hy => List.mem_cons_of_mem _ hy)).trans (ho6.mono (by simp)) (Grow.refl _ _)
    have hq6 : w6.heap[q]? = some (valObj was) := ho6.keepB (blockAlloc hq5) (by have := hB.size; simp; omega)
    have hd6 := hd5.outside ((Outside.refl [] w5).alloc (.cells #[.int .i64 x.kind, .int .i64 x.n, .string x.s] 24) |>.mono (by simp) |>.trans ho6 (Grow.refl _ _)) (by
     intro y hy e
     simp at e; subst e
     rcases hg5 y hy with h | h
     ·
      exact n1 h
     ·
      have : wc.drew.heap.size = wc.heap.size := rfl
      have := hB3.size; omega)
    clear r0 r1 r2
    have HI := Lib.hid (And.intro hm6 (And.intro hO6 hd6))
    have HG5 := Lib.hid hg5
    have c6 : w6.cell? ⟨h, 1, none⟩ = some (.map (some mr)) := hO6.cell OO.out.c1 (by simp only [List.mem_cons, not_or]; exact ⟨n5, n2⟩)
    clear hd5 hm5 hg5 hO5 c5 hx5 ho6 ho5 hO6 hm6 hd6
    cases hc : has with
    | false =>
     rw [hc] at HA
     have HN := Lib.hid (show getL o.pairs k = none by have := HA.out; simpa using this)
     clear hc
     go_wp2
     go_ret
     unfold PutPost
     rw [HK2.out]
     refine ⟨rfl, ?_⟩
     simp only [if_true]
     refine put_shut OO.out HI.out.2.1 HI.out.1 HI.out.2.2 HG5.out (hwc := hz3) fun m => ?_
     rw [cntL_holdL 1 [x] OO.out.hc m]
     congr 1
     have h3 := cnt_putL_none HN.out x m
     omega
    | true =>
     rw [hc] at HA
     obtain ⟨y, hy⟩ := Option.isSome_iff_exists.1 HA.out
     have HN := Lib.hid hy
     have hwy : was = y := by have := HW.out; rw [hy] at this; exact this.symm
     subst hwy
     clear hc hy
     obtain ⟨t0, t1, t2, _⟩ := valBlkO hq6
     go_wp2_with fail
     refine (heap_hold _ h mr (-1) _ [was] (holdL 1 [x] r) ((HI.out.2.1.alloc _).cell OO.out.c1 (by simp only [List.mem_cons, not_or]; exact ⟨n5, n2⟩)) (HI.out.1.alloc _) (seesOne (heapAllocNew w6 _))).mono ?_
     rintro e w7 ⟨⟨_, rfl⟩, hm7, ho7⟩
     have hO7 : Outside (mr :: G) w w7 := (HI.out.2.1.alloc _).trans (ho7.mono (by simp)) (Grow.refl _ _)
     have hd7 : DictIs w7 d (putL o.pairs k x) G' := HI.out.2.2.outside (((Outside.refl [mr] w6).alloc _).trans ho7 (Grow.refl _ _)) (by
      intro y hy e
      simp at e; subst e
      rcases HG5.out y hy with h | h
      ·
       exact n1 h
      ·
       have : wc.drew.heap.size = wc.heap.size := rfl
       omega)
     have HI7 := Lib.hid (And.intro hm7 (And.intro hO7 hd7))
     clear hd7 hO7 ho7 hm7 t0 t1 t2
     go_wp2
     go_ret
     unfold PutPost
     rw [HK2.out]
     refine ⟨rfl, ?_⟩
     simp only [if_true]
     refine put_shut OO.out HI7.out.2.1 HI7.out.1 HI7.out.2.2 HG5.out (hwc := hz3) fun m => ?_
     rw [cntL_holdL (-1) [was] (cntL_holdL 1 [x] OO.out.hc) m]
     congr 1
     have h3 := cnt_putL_some OO.out.hdict.nodup HN.out x m
     omega
end Go.Proofs.YtijlebhoapdfnaaGreat
