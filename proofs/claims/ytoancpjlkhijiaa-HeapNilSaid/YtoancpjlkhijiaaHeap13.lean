/- The heap: Del. -/
import Derived.Test.YtoancpjlkhijiaaHeap12
namespace Go.Proofs.Ytoancpjlkhijiaa
open Go.RowKit
set_option linter.unusedVariables false
def HeapM.del (H : HeapM) (v k : V) : HeapM := match H.of v with | some o => H.set v.n { o with pairs := delL o.pairs k } | none => H
def HeapM.has (H : HeapM) (v k : V) : Bool := match H.of v with | some o => (getL o.pairs k).isSome | none => false
def DelPost (h : Nat) (H : HeapM) (ε : Int → Int) (F : List Nat) (w : World) (v k : V) (o : ObjM) (e : Ending) (w' : World) : Prop :=
  e = .returned (.bool (getL o.pairs k).isSome) ∧ HeapPost h (H.set v.n { o with pairs := delL o.pairs k }) ε F w w'
set_option maxRecDepth 100000 in
set_option maxHeartbeats 1600000 in
theorem heap_del (w : World) (h : Nat) (v k : V) {H : HeapM} {ε : Int → Int} {F : List Nat} (hh : HeapIs w h H ε F) :
    Calls Try.prog 53 #[.pointer (some ⟨h, 0, none⟩), v.val, k.val] w fun e w' => e = .returned (.bool (H.has v k)) ∧ HeapPost h (H.del v k) ε F w w' := by
  cases g : H.of v with
  | none =>
    have HO := Lib.hid (hh.of_none g)
    have HH := Lib.hid hh
    have e1 : H.has v k = false := by simp [HeapM.has, g]
    have e2 : H.del v k = H := by simp [HeapM.del, g]
    rw [e1, e2]
    clear hh g e1 e2
    simp only [V.val] at HO ⊢
    go_enter Try.func53, Try.ntmps53
    go_wp2_with (go_at_call 45; refine (HO.out _ (by below_tac)).mono ?_; rintro e w1 ⟨rfl, hb1⟩; have hB : Below w.heap.size w w1 := (by below_by hb1))
    go_ret
    exact ⟨rfl, HeapPost.same HH.out hB⟩
  | some o =>
    obtain ⟨ma, mr, b, d, rv, G, obs, r, O⟩ := hh.open g
    have HO := Lib.hid O.of
    have HK := Lib.hid O.cells
    have HH := Lib.hid hh
    have OO := Lib.hid O
    have e1 := Lib.hid (show H.has v k = (getL o.pairs k).isSome by simp [HeapM.has, g])
    have e2 := Lib.hid (show H.del v k = H.set v.n { o with pairs := delL o.pairs k } by simp [HeapM.del, g])
    rw [e1.out, e2.out]
    show Calls _ _ _ _ (DelPost h H ε F w v k o)
    have HG := Lib.hid (fun W (hW : Below w.heap.size w W) => dict_get W d o.pairs G k (O.hdict.below hW))
    have k4 := O.k4
    obtain ⟨was, hwas⟩ : ∃ was, (getL o.pairs k).getD V.zero = was := ⟨_, rfl⟩
    obtain ⟨has, hhas⟩ : ∃ has, (getL o.pairs k).isSome = has := ⟨_, rfl⟩
    rw [hwas, hhas] at HG
    have HW := Lib.hid hwas
    have HA := Lib.hid hhas
    clear hh g O hwas hhas
    simp only [V.val] at HO HG ⊢
    go_enter Try.func53, Try.ntmps53
    go_upto_region 4 with (go_at_call 45; refine (HO.out _ (by below_tac)).mono ?_; rintro e w1 ⟨rfl, hb1⟩)
    have hB : Below w.heap.size w w1 := by below_by hb1
    have K4 := cellBelow k4 hB
    have hk1 : w1.heap[w.heap.size + 1]? = some (valObj k) := by have := boxAt hb1; simp only [World.size_alloc] at this; exact this
    obtain ⟨p0, p1, p2, _⟩ := valBlkO hk1
    have hz1 : w.heap.size + 1 < w1.heap.size := blockLt hk1
    have hbl : b < w1.heap.size := World.block_lt_of_cell? w1 _ K4
    go_cut [8, 9] (fun s8 s9 wx => WasAt w1 was has s8 s9 wx)
    case first =>
      go_region_with (go_at_call 74; (refine (HG.out _ (by below_tac)).mono ?_; rintro e w2 ⟨rfl, hb2⟩; have hB2 : Below w.heap.size w w2 := (by below_by hb2); obtain ⟨hc2, hf2⟩ := bcell hb2))
      all_goals (go_wp2_with fail; go_meet)
      all_goals first | exact wasB hb2 | exact wasA hb2
    case rest =>
      obtain ⟨q, rfl, rfl, hq, hq2, hb3⟩ := hcut
      clear p0 p1 p2
      have hB3 : Below w.heap.size w wc := Below.next hB hb3 hB.size
      have hk3 := blockBelow hk1 hb3
      obtain ⟨p0, p1, p2, _⟩ := valBlkO hk3
      have K5 := cellBelow k4 hB3
      have hz3 := hB3.size
      go_wp2_with fail
      have hmrG : mr ∉ G ∧ h ∉ G ∧ mr < w.heap.size ∧ h < w.heap.size ∧ h ≠ mr ∧ (∀ y ∈ G, y < w.heap.size) := by
        have O := OO.out
        have nd := O.nd
        simp only [List.cons_append, List.nodup_cons, List.mem_cons, List.mem_append, not_or] at nd
        exact ⟨nd.2.2.1.2.2, nd.1.2.2.2.2, O.hr.lt, World.block_lt_of_cell? w _ O.c1, nd.1.2.1, O.hdict.lt⟩
      obtain ⟨n1, n2, n3, n4, n5, n6⟩ := hmrG
      have HP := Lib.hid (fun W (hW : Below w.heap.size w W) => dict_del W d o.pairs G k (OO.out.hdict.below hW))
      rw [HA.out] at HP
      simp only [V.val] at HP
      go_still_tail 5, (by kernel_rfl)
      change wpList _ _ _ _ _ wc.drew
      go_wp2_with fail
      refine (HP.out _ (by below_tac)).mono ?_
      rintro e w5 ⟨rfl, hd5, ho5⟩
      have hO5 : Outside G w w5 := (Outside.of_below (show Below w.heap.size w wc.drew by below_tac) G).trans ho5 (Grow.refl _ _)
      have hqG : ∀ y, w.heap.size ≤ y → y ∉ G := fun y hy hG => by have := n6 y hG; omega
      have hq5 : w5.heap[q]? = some (valObj was) := ho5.keepB (show wc.drew.heap[q]? = _ from hq) (hqG q (by have := hB.size; omega))
      have hm5 : mapIs w5 Try.prog 2 ekI exI mr r := OO.out.hr.of_block (hO5.block mr n3 n1)
      have HI := Lib.hid (And.intro hm5 (And.intro hO5 hd5))
      clear p0 p1 p2 hm5 hO5 hd5 ho5 K5
      cases hc : has with
      | false =>
        rw [hc] at HA
        have HN := Lib.hid (show getL o.pairs k = none by have := HA.out; simpa using this)
        clear hc
        go_wp2
        go_ret
        unfold DelPost
        rw [HA.out]
        refine ⟨rfl, ?_⟩
        refine put_shut OO.out (HI.out.2.1.mono (fun y hy => List.mem_cons_of_mem _ hy)) HI.out.1 HI.out.2.2 (Grow.refl G wc) (hwc := hz3) fun m => ?_
        rw [delL_none HN.out, OO.out.hc m]
        congr 1
        omega
      | true =>
        rw [hc] at HA
        obtain ⟨y, hy⟩ := Option.isSome_iff_exists.1 HA.out
        have HN := Lib.hid hy
        have hwy : was = y := by have := HW.out; rw [hy] at this; exact this.symm
        subst hwy
        clear hc hy
        obtain ⟨t0, t1, t2, _⟩ := valBlkO hq5
        have hql := blockLt hq5
        go_wp2_with fail
        refine (heap_hold _ h mr (-1) _ [was] r ((HI.out.2.1.alloc _).cell OO.out.c1 n2) (HI.out.1.alloc _) (seesOne (heapAllocNew w5 _))).mono ?_
        rintro e w7 ⟨⟨_, rfl⟩, hm7, ho7⟩
        have hO7 : Outside (mr :: G) w w7 := ((HI.out.2.1.alloc _).mono (fun y hy => List.mem_cons_of_mem _ hy)).trans (ho7.mono (by simp)) (Grow.refl _ _)
        have hd7 : DictIs w7 d (delL o.pairs k) G := HI.out.2.2.outside (((Outside.refl [mr] w5).alloc _).trans ho7 (Grow.refl _ _)) (by
          intro y hy e
          simp at e; subst e
          exact n1 hy)
        have HI7 := Lib.hid (And.intro hm7 (And.intro hO7 hd7))
        clear hd7 hO7 ho7 hm7 t0 t1 t2
        go_wp2
        go_ret
        unfold DelPost
        rw [HA.out]
        refine ⟨rfl, ?_⟩
        refine put_shut OO.out HI7.out.2.1 HI7.out.1 HI7.out.2.2 (Grow.refl G wc) (hwc := hz3) fun m => ?_
        rw [cntL_holdL (-1) [was] OO.out.hc m]
        congr 1
        have h3 := cnt_delL OO.out.hdict.nodup HN.out m
        omega
end Go.Proofs.Ytoancpjlkhijiaa
