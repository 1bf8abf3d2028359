/- The heap: SetAt. -/
import Derived.Test.YtoancpjlkhijiaaHeap10
namespace Go.Proofs.Ytoancpjlkhijiaa
open Go.RowKit
set_option linter.unusedVariables false
theorem seesOne {w : World} {b : Nat} {x : V} (h : w.heap[b]? = some (.cells #[.int .i64 x.kind, .int .i64 x.n, .string x.s] 26)) : SeesV w (.slice (some ⟨b, 0, none⟩) 1 1) [x] := by
  obtain ⟨p0, p1, p2, _⟩ := valBlk h
  refine ⟨_, 1, rfl, by simp, by decide, .inr ⟨b, 0, rfl, fun i v hv => ?_⟩⟩
  cases i with
  | zero => simp at hv; subst hv; exact ⟨p0, p1, p2⟩
  | succ i => simp at hv
section
variable {w : World} {h : Nat} {H : HeapM} {ε : Int → Int} {F : List Nat} {v : V} {o : ObjM} {ma mr b d : Nat} {rv : Value} {G : List Nat} {obs : List (Int × Nat)} {r : List (Int × Int)}
theorem OpenAt.keep (O : OpenAt w h H ε F v o ma mr b d rv G obs r) {W : World} (hW : Outside [mr] w W) {p : Addr} {u : Value} (hp : w.cell? p = some u) : W.cell? p = some u := hW.cell hp (by simpa using O.hr.ne_cell hp)
theorem OpenAt.c1 (O : OpenAt w h H ε F v o ma mr b d rv G obs r) : w.cell? ⟨h, 1, none⟩ = some (.map (some mr)) := cellAt O.hd 1 rfl
theorem OpenAt.k3 (O : OpenAt w h H ε F v o ma mr b d rv G obs r) : w.cell? ⟨b, 3, none⟩ = some rv := by have ho := O.ho; unfold objBlock at ho; exact cellAt ho 3 rfl
theorem OpenAt.k4 (O : OpenAt w h H ε F v o ma mr b d rv G obs r) : w.cell? ⟨b, 4, none⟩ = some (.pointer (some ⟨d, 0, none⟩)) := by have ho := O.ho; unfold objBlock at ho; exact cellAt ho 4 rfl
/-- The items' slice, and where the one at n lies. -/
theorem OpenAt.item (O : OpenAt w h H ε F v o ma mr b d rv G obs r) {n : Nat} {x : V} (hx : o.items[n]? = some x) : ∃ g c, rv = .slice (some ⟨g, 0, none⟩) o.items.length c ∧ o.items.length ≤ c ∧ c ≤ maxLen ∧ g < w.heap.size ∧ rv.ownBlock = some g ∧
    w.cell? ⟨g, n * 3, none⟩ = some (.int .i64 x.kind) ∧ w.cell? ⟨g, n * 3 + 1, none⟩ = some (.int .i64 x.n) ∧ w.cell? ⟨g, n * 3 + 2, none⟩ = some (.string x.s) := by
  rcases O.hi.shape with ⟨h1, h2⟩ | ⟨g, c, h1, h2, h3, h4⟩
  · rw [h2] at hx; simp at hx
  · have hb : rv.ownBlock = some g := by rw [h1]; rfl
    have j0 := O.hi.cell V.cells_len hb hx (j := 0) rfl
    rw [Nat.add_zero] at j0
    exact ⟨g, c, h1, h2, h3, h4, hb, j0, O.hi.cell V.cells_len hb hx (j := 1) rfl, O.hi.cell V.cells_len hb hx (j := 2) rfl⟩
end
theorem Outside.keepB {F : List Nat} {w w' : World} (h : Outside F w w') {b : Nat} {o : Obj} (hb : w.heap[b]? = some o) (hn : b ∉ F) : w'.heap[b]? = some o := (h.block b (blockLt hb) hn).trans hb
theorem cnt_set_item {l : List V} {n : Nat} {y : V} (h : l[n]? = some y) (x : V) (m : Int) : cnt (l.set n x) m = cnt l m - cnt [y] m + cnt [x] m := by
  induction l generalizing n with
  | nil => simp at h
  | cons a l ih =>
    cases n with
    | zero => simp at h; subst h; simp only [List.set_cons_zero, cnt_cons, cnt_nil]; omega
    | succ n => simp at h; simp only [List.set_cons_succ, cnt_cons a, ih h]; omega
def HeapM.setAt (H : HeapM) (v : V) (i : Int) (x : V) : HeapM := match H.of v with | some o => if 0 ≤ i ∧ i < o.items.length then H.set v.n { o with items := o.items.set i.toNat x } else H | none => H
def HeapM.inItems (H : HeapM) (v : V) (i : Int) : Bool := match H.of v with | some o => decide (0 ≤ i ∧ i < o.items.length) | none => false
def HeapPost (h : Nat) (H' : HeapM) (ε : Int → Int) (F : List Nat) (w w' : World) : Prop := ∃ F', HeapIs w' h H' ε F' ∧ Grow F F' w ∧ Outside F w w'
theorem HeapPost.same {h : Nat} {H : HeapM} {ε : Int → Int} {F : List Nat} {w w' : World} (hh : HeapIs w h H ε F) (hb : Below w.heap.size w w') : HeapPost h H ε F w w' := ⟨F, hh.below hb, Grow.refl _ _, Outside.of_below hb _⟩
set_option maxHeartbeats 800000 in
theorem heap_setAt (w : World) (h : Nat) (v : V) (i : Int) (x : V) (hi : okI i) {H : HeapM} {ε : Int → Int} {F : List Nat} (hh : HeapIs w h H ε F) :
    Calls Try.prog 52 #[.pointer (some ⟨h, 0, none⟩), v.val, .int .i64 i, x.val] w fun e w' => e = .returned (.bool (H.inItems v i)) ∧ HeapPost h (H.setAt v i x) ε F w w' := by
  cases g : H.of v with
  | none =>
    have HO := Lib.hid (hh.of_none g)
    have HH := Lib.hid hh
    have e1 : H.inItems v i = false := by simp [HeapM.inItems, g]
    have e2 : H.setAt v i x = H := by simp [HeapM.setAt, g]
    rw [e1, e2]
    clear hh g e1 e2
    simp only [V.val] at HO ⊢
    go_enter Try.func52, Try.ntmps52
    go_wp2_with (go_at_call 45; refine (HO.out _ (by below_tac)).mono ?_; rintro e w1 ⟨rfl, hb1⟩; have hB : Below w.heap.size w w1 := (by below_by hb1))
    go_ret
    exact ⟨rfl, HeapPost.same HH.out hB⟩
  | some o =>
    obtain ⟨ma, mr, b, d, rv, G, obs, r, O⟩ := hh.open g
    have HO := Lib.hid O.of
    have HK := Lib.hid O.cells
    have HH := Lib.hid hh
    by_cases hin : 0 ≤ i ∧ i < o.items.length
    · have e1 : H.inItems v i = true := by simp [HeapM.inItems, g, hin]
      obtain ⟨n, rfl⟩ : ∃ n : Nat, i = n := ⟨i.toNat, by omega⟩
      have hnl : n < o.items.length := by omega
      have e2 : H.setAt v n x = H.set v.n { o with items := o.items.set n x } := by simp [HeapM.setAt, g, hnl]
      rw [e1, e2]
      obtain ⟨y, hy⟩ : ∃ y, o.items[n]? = some y := ⟨o.items[n], by simp [hnl]⟩
      obtain ⟨gb, c, hrv, hlc, hcm, hgl, hown, j0, j1, j2⟩ := O.item hy
      subst hrv
      have c1 := O.c1
      have k3 := O.k3
      have mrl := O.hr.lt
      have hbl := blockLt O.ho
      have hhl := World.block_lt_of_cell? w _ c1
      have OO := Lib.hid O
      have HY := Lib.hid hy
      have hil : (n : Int) < o.items.length := by omega
      have hbig : (o.items.length : Int) ≤ 9223372036854775807 := by unfold maxLen at hcm; omega
      have hmg : gb ≠ mr := O.hr.ne_cell j0
      clear hh g e1 e2 hin O hy hcm hown
      simp only [V.val] at HO ⊢
      go_enter Try.func52, Try.ntmps52
      go_wp2_with fail
      refine (HO.out _ (by below_tac)).mono ?_
      rintro e w1 ⟨rfl, hb1⟩
      have hB : Below w.heap.size w w1 := by below_by hb1
      have hx1 : w1.heap[w.heap.size + 1]? = some (.cells #[.int .i64 x.kind, .int .i64 x.n, .string x.s] 26) := by have := boxAt hb1; simpa using this
      obtain ⟨p0, p1, p2, _⟩ := valBlk hx1
      obtain ⟨q0, q1, q2, q3, q4⟩ := HK.out _ hB
      have hz1 : w.heap.size + 1 < w1.heap.size := blockLt hx1
      go_wp2_with fail
      have ho1 : Outside [mr] w (w1.alloc (.cells #[.int .i64 x.kind, .int .i64 x.n, .string x.s] 26)) := (Outside.of_below hB _).alloc _
      refine (heap_hold _ h mr 1 _ [x] r (ho1.cell c1 (by simpa using OO.out.hr.ne_cell c1)) (OO.out.hr.of_block (((hB.alloc (by omega) _)).block mr mrl)) (seesOne (heapAllocNew w1 _))).mono ?_
      rintro e w2 ⟨⟨_, rfl⟩, hm2, ho2⟩
      have hO2 : Outside [mr] w w2 := ho1.trans ho2 (fun b hb => .inl hb)
      have hx2 : w2.heap[w.heap.size + 1]? = some (.cells #[.int .i64 x.kind, .int .i64 x.n, .string x.s] 26) := ho2.keepB (blockAlloc hx1) (by simp; omega)
      have K3 := OO.out.keep hO2 k3
      have J0 := OO.out.keep hO2 j0
      have J1 := OO.out.keep hO2 j1
      have J2 := OO.out.keep hO2 j2
      have hz2 : w.heap.size + 1 < w2.heap.size := blockLt hx2
      clear p0 p1 p2 q0 q1 q2 q3 q4
      go_wp2_with fail
      refine (heap_hold _ h mr (-1) _ [y] (holdL 1 [x] r) ((hO2.alloc _).cell c1 (by simpa using OO.out.hr.ne_cell c1)) (hm2.alloc _) (seesOne (heapAllocNew w2 _))).mono ?_
      rintro e w3 ⟨⟨_, rfl⟩, hm3, ho3⟩
      have hO3 : Outside [mr] w w3 := (hO2.alloc _).trans ho3 (fun b hb => .inl hb)
      have hx3 : w3.heap[w.heap.size + 1]? = some (.cells #[.int .i64 x.kind, .int .i64 x.n, .string x.s] 26) := ho3.keepB (blockAlloc hx2) (by simp; omega)
      have L3 := OO.out.keep hO3 k3
      have M0 := OO.out.keep hO3 j0
      have M1 := OO.out.keep hO3 j1
      have M2 := OO.out.keep hO3 j2
      have hi3 := OO.out.hi.of_block (w' := w3) (fun g' hg' => hO3.block g' (OO.out.hi.lt g' hg') (by simp [Value.ownBlock] at hg'; subst hg'; simpa using hmg))
      have hfr : ∀ j, w3.frozen? ⟨gb, j, none⟩ = false := fun j => hi3.frozen rfl j
      obtain ⟨y0, y1, y2, _⟩ := valBlk hx3
      have HM3 := Lib.hid hm3
      have HO3 := Lib.hid hO3
      have HI3 := Lib.hid hi3
      clear K3 J0 J1 J2 ho1 ho2 ho3 hm2 hm3 hx1 hx2 hx3 hO2 hi3 hb1 hB hz1 hz2 hO3
      go_wp2
      go_region
      go_wp2
      go_ret
      refine ⟨rfl, ?_⟩
      show HeapPost h _ ε F w (w3.setCells gb (n * 3) x.cells).drew
      have O := OO.out
      have hp := HI3.out.putAt (a' := x) V.cells_len hnl
      have hout : Outside [mr, gb] w (w3.setCells gb (n * 3) x.cells).drew := (Outside.setCells (.inl (by simp)) _ _ (HO3.out.mono (by simp))).drew
      have hw3 : Outside [gb] w3 (w3.setCells gb (n * 3) x.cells) := Outside.setCells (.inl (by simp)) _ _ (Outside.refl _ _)
      have hz := size_setCells gb x.cells (n * 3) w3
      generalize w3.setCells gb (n * 3) x.cells = W' at hp hout hw3 hz ⊢
      have hnd := O.nd
      simp only [List.cons_append, List.nodup_cons, List.mem_cons, Value.ownBlock, Option.toList_some, List.nil_append, not_or] at hnd
      have hw2 : ∀ k, k < w.heap.size → k ≠ mr → k ≠ gb → W'.heap[k]? = w.heap[k]? := fun k hk h1 h2 => hout.block k hk (by simp [h1, h2])
      refine O.shut W'.drew { o with items := o.items.set n x } _ G (holdL (-1) [y] (holdL 1 [x] r)) ε ?_ ?_ ?_ ?_ (O.counts _ fun m => ?_) ?_ (Grow.refl _ _) (hout.mono (by simp [Value.ownBlock]))
      · exact (hw2 b hbl (by omega) (by omega)).trans O.ho
      · exact hp.drewN 1
      · refine O.hdict.of_block fun k hk => hw2 k (O.hdict.lt k hk) ?_ ?_
        · intro e; subst e; simp_all
        · intro e; subst e; simp_all
      · exact HM3.out.of_block (hw3.block mr HM3.out.lt (by simpa using fun e => hmg e.symm))
      · rw [cntL_holdL (-1) [y] (cntL_holdL 1 [x] O.hc) m]
        congr 1
        have h1 : cnt ({ o with items := o.items.set n x } : ObjM).vals m = cnt (o.items.set n x) m + cnt (o.pairs.map (·.2)) m := cnt_append _ _ _
        have h2 : cnt o.vals m = cnt o.items m + cnt (o.pairs.map (·.2)) m := cnt_append _ _ _
        have h3 := cnt_set_item HY.out x m
        omega
      · have := O.nd
        simp only [List.nodup_cons] at this
        simpa using this.2.2.2
    · have e1 : H.inItems v i = false := by simp [HeapM.inItems, g, hin]
      have e2 : H.setAt v i x = H := by simp [HeapM.setAt, g, hin]
      rw [e1, e2]
      obtain ⟨ra, rcap, hrv⟩ := O.hi.form
      subst hrv
      clear hh g e1 e2 O
      simp only [V.val] at HO ⊢
      rcases Int.lt_or_le i 0 with hi0 | hi0
      · clear hin
        go_enter Try.func52, Try.ntmps52
        go_wp2_with (go_at_call 45; refine (HO.out _ (by below_tac)).mono ?_; rintro e w1 ⟨rfl, hb1⟩; have hB : Below w.heap.size w w1 := (by below_by hb1); obtain ⟨k0, k1, k2, k3, k4⟩ := HK.out _ hB)
        go_ret
        exact ⟨rfl, HeapPost.same HH.out hB⟩
      · have hge : (o.items.length : Int) ≤ i := by omega
        clear hin
        go_enter Try.func52, Try.ntmps52
        go_wp2_with (go_at_call 45; refine (HO.out _ (by below_tac)).mono ?_; rintro e w1 ⟨rfl, hb1⟩; have hB : Below w.heap.size w w1 := (by below_by hb1); obtain ⟨k0, k1, k2, k3, k4⟩ := HK.out _ hB)
        go_ret
        exact ⟨rfl, HeapPost.same HH.out hB⟩
end Go.Proofs.Ytoancpjlkhijiaa
