/- The heap: Replace. -/
import Derived.Test.YtoancpjlkhijiaaHeap13
import Derived.Test.YtoancpjlkhijiaaConcat
import Derived.Deep.RegionHeld3
import Derived.Deep.RegionLaw
namespace Go.Proofs.Ytoancpjlkhijiaa
open Go.RowKit
set_option linter.unusedVariables false
def HeapM.replace (H : HeapM) (v : V) (i j : Int) (l : List V) : HeapM := match H.of v with | some o => if 0 ≤ i ∧ i ≤ j ∧ j ≤ o.items.length then H.set v.n { o with items := o.items.take i.toNat ++ l ++ o.items.drop j.toNat } else H | none => H
def HeapM.canReplace (H : HeapM) (v : V) (i j : Int) : Bool := match H.of v with | some o => decide (0 ≤ i ∧ i ≤ j ∧ j ≤ o.items.length) | none => false
theorem slIs.caps {α : Type} {w : World} {e : TypeId} {m : Nat} {f : α → List Value} {l : List α} {a : Option Addr} {n c : Nat} (h : slIs w e m f (.slice a n c) l) : n = l.length ∧ l.length ≤ c ∧ c ≤ maxLen := by
  rcases h.shape with ⟨h1, h2⟩ | ⟨g', cap, h1, h2, h3, _⟩
  · obtain ⟨_, e2, e3⟩ := Value.slice.inj h1
    subst h2; subst e2; subst e3; exact ⟨rfl, Nat.le_refl _, by decide⟩
  · obtain ⟨_, e2, e3⟩ := Value.slice.inj h1
    subst e2; subst e3; exact ⟨rfl, h2, h3⟩
/-- Part of a slice that shows values. -/
theorem seesPart {w : World} {ra : Option Addr} {l : List V} {c : Nat} (h : slIs w 26 3 V.cells (.slice ra l.length c) l) {i j m : Nat} (hij : i ≤ j) (hjl : j ≤ l.length) (hjm : j ≤ m) (hmc : m ≤ c) :
    ∃ a, sliced ra i j m 3 = .slice a (j - i) (m - i) ∧ SeesV w (.slice a (j - i) (m - i)) ((l.drop i).take (j - i)) := by
  refine ⟨_, rfl, ?_⟩
  have hlen : ((l.drop i).take (j - i)).length = j - i := by rw [List.length_take, List.length_drop]; omega
  have hcm : m ≤ maxLen := Nat.le_trans hmc h.caps.2.2
  refine ⟨_, _, by rw [hlen], by rw [hlen]; omega, by omega, ?_⟩
  by_cases he : j = i
  · left; subst he; simp
  · right
    rcases h.shape with ⟨h1, h2⟩ | ⟨g, cap, h1, h2, h3, h4⟩
    · rw [h2] at hjl; simp at hjl; omega
    · have hmi : ¬ m = i := by omega
      have e1 := (Value.slice.inj h1).1
      subst e1
      refine ⟨g, i * 3, ?_, fun k v hv => ?_⟩
      · simp [hmi, Addr.add]; omega
      · have hk : k < j - i := by have := (List.getElem?_eq_some_iff.1 hv).1; rwa [hlen] at this
        rw [List.getElem?_take, if_pos hk, List.getElem?_drop] at hv
        have j0 := h.cell V.cells_len rfl hv (j := 0) rfl
        rw [Nat.add_zero, Nat.add_mul] at j0
        have j1 := h.cell V.cells_len rfl hv (j := 1) rfl
        rw [Nat.add_mul] at j1
        have j2 := h.cell V.cells_len rfl hv (j := 2) rfl
        rw [Nat.add_mul] at j2
        exact ⟨j0, j1, j2⟩
theorem cnt_splice (i j : Nat) (hij : (i : Int) ≤ j) (l items : List V) (m : Int) : cnt (items.take i ++ l ++ items.drop j) m = cnt items m + 1 * cnt l m + -1 * cnt ((items.drop i).take (j - i)) m := by
  have e : items = items.take i ++ ((items.drop i).take (j - i) ++ items.drop j) := by
    conv => lhs; rw [← List.take_append_drop i items]
    congr 1
    conv => lhs; rw [← List.take_append_drop (j - i) (items.drop i)]
    rw [List.drop_drop, show i + (j - i) = j by omega]
  have h1 : cnt items m = cnt (items.take i) m + (cnt ((items.drop i).take (j - i)) m + cnt (items.drop j) m) := by
    conv => lhs; rw [e]
    rw [cnt_append, cnt_append]
  rw [cnt_append, cnt_append]
  omega
section
variable {w : World} {h : Nat} {H : HeapM} {ε : Int → Int} {F : List Nat} {v : V} {o : ObjM} {ma mr b d : Nat} {rv : Value} {G : List Nat} {obs : List (Int × Nat)} {r : List (Int × Int)}
/-- The items were replaced, and the counts. -/
theorem repl_shut (O : OpenAt w h H ε F v o ma mr b d rv G obs r) {w3 w4 : World} {r' : List (Int × Int)} {v4 : Value} {l : List V} (hO : Outside [mr] w w3) (hm : mapIs w3 Try.prog 2 ekI exI mr r') (hb : Below w3.heap.size w3 w4)
    (hi : slIs w4 26 3 V.cells v4 l) (hf : ∀ y, v4.ownBlock = some y → w3.heap.size ≤ y)
    (hr : ∀ m, cntL r' m = wrap64 (cnt (allVals H.objs) m - cnt o.items m + cnt l m + ε m)) : HeapPost h (H.set v.n { o with items := l }) ε F w (w4.setCell ⟨b, 3, none⟩ v4) := by
  have nd := O.nd
  have hlt : ∀ y ∈ G, y < w.heap.size := O.hdict.lt
  have hbl := blockLt O.ho
  have hsz := hO.size
  simp only [List.cons_append, List.nodup_cons, List.mem_cons, List.mem_append, List.nodup_append, not_or] at nd
  obtain ⟨⟨a1, a2, a3, a4, a5⟩, ⟨b1, b2, b3, b4⟩, ⟨c1, c2, c3⟩, ⟨d1, d2⟩, e1, e2, e3⟩ := nd
  have hout : Outside [mr, b] w (w4.setCell ⟨b, 3, none⟩ v4) := ((hO.trans (Outside.of_below hb [mr]) (Grow.refl _ _)).mono (by simp)).setCell (.inl (by simp)) _
  have hblk : (w4.setCell ⟨b, 3, none⟩ v4).heap[b]? = some (objBlock { o with items := l } v4 d) := by
    have h3 : w3.heap[b]? = some (objBlock o rv d) := hO.keepB O.ho (by simp only [List.mem_singleton]; exact fun e => c1 e.symm)
    exact heap_setCell_same (blockBelow h3 hb) 3 v4
  have hw2 : ∀ k, k < w.heap.size → k ≠ mr → k ≠ b → (w4.setCell ⟨b, 3, none⟩ v4).heap[k]? = w.heap[k]? := fun k hk h1 h2 => hout.block k hk (by simp [h1, h2])
  refine O.shut _ { o with items := l } v4 G r' ε hblk ?_ ?_ ?_ (O.counts _ fun m => ?_) ?_ ?_ (hout.mono (by simp))
  · refine hi.of_block fun g hg => Below.heap_setCell _ _ _ _ ?_
    show g ≠ b
    have := hf g hg; omega
  · refine O.hdict.of_block fun k hk => hw2 k (hlt k hk) ?_ ?_
    · intro e; subst e; exact c3 hk
    · intro e; subst e; exact d2 hk
  · exact (hm.of_block (hb.block mr hm.lt)).of_block (Below.heap_setCell _ _ _ _ c1)
  · rw [hr]
    congr 1
    have h1 : cnt ({ o with items := l } : ObjM).vals m = cnt l m + cnt (o.pairs.map (·.2)) m := cnt_append _ _ _
    have h2 : cnt o.vals m = cnt o.items m + cnt (o.pairs.map (·.2)) m := cnt_append _ _ _
    omega
  · have hown : ∀ y ∈ v4.ownBlock.toList, w.heap.size ≤ y := fun y hy => by have := hf y (by simpa using hy); omega
    simp only [List.cons_append, List.nodup_cons, List.mem_append, List.nodup_append, not_or]
    refine ⟨⟨fun h => ?_, d2⟩, ?_, e2, fun y hy z hz e => ?_⟩
    · have := hown b h; omega
    · cases v4.ownBlock <;> simp
    · subst e; have := hown y hy; have := hlt y hz; omega
  · intro y hy
    simp only [List.cons_append, List.mem_cons, List.mem_append] at hy ⊢
    rcases hy with h | h | h
    · exact .inl (.inl h)
    · exact .inr (by have := hf y (by simpa using h); omega)
    · exact .inl (.inr (.inr h))
end
def CatPost (l : List V) (w : World) (e : Ending) (w' : World) : Prop := ∃ v, e = .returned v ∧ slIs w' 26 3 V.cells v l ∧ (∀ b, v.ownBlock = some b → w.heap.size ≤ b) ∧ Below w.heap.size w w'
def ReplPost (h : Nat) (H : HeapM) (ε : Int → Int) (F : List Nat) (w : World) (v : V) (i j : Nat) (l : List V) (o : ObjM) (e : Ending) (w' : World) : Prop :=
  e = .returned (.bool true) ∧ HeapPost h (H.set v.n { o with items := o.items.take i ++ l ++ o.items.drop j }) ε F w w'
set_option maxRecDepth 100000 in
set_option maxHeartbeats 1600000 in
theorem heap_replace_yes (w : World) (h : Nat) (v : V) (i j : Nat) (sv : Value) (l : List V) {H : HeapM} {ε : Int → Int} {F : List Nat} {o : ObjM} (hh : HeapIs w h H ε F) (g : H.of v = some o) (hs : SeesV w sv l) (hij : i ≤ j) (hjl : j ≤ o.items.length)
    (hlen : o.items.length + l.length ≤ 4194304) :
    Calls Try.prog 14 #[.pointer (some ⟨h, 0, none⟩), v.val, .int .i64 i, .int .i64 j, sv] w (ReplPost h H ε F w v i j l o) := by
  obtain ⟨ma, mr, b, d, rv, G, obs, r, O⟩ := hh.open g
  have HO := Lib.hid O.of
  have HK := Lib.hid O.cells
  have OO := Lib.hid O
  obtain ⟨ra, rcap, hrv⟩ := O.hi.form
  subst hrv
  have hic : o.items.length ≤ rcap := O.hi.caps.2.1
  have hu : Try.prog.underlying 22 = some (.slice (Try.prog.elem 22)) := by kernel_rfl
  have hsz : ∀ W, (sizeOf (Try.prog.elem 22)).run Try.prog W = .ok 3 W := fun W => by kernel_rfl
  obtain ⟨a1, ha1, sees1⟩ := seesPart O.hi hij hjl (Nat.le_refl _) (Nat.le_trans hjl hic)
  obtain ⟨a2, ha2, sees2⟩ := seesPart O.hi (Nat.zero_le i) (Nat.le_trans hij hjl) (Nat.le_refl i) (Nat.le_trans hij (Nat.le_trans hjl hic))
  obtain ⟨a3, ha3, sees3⟩ := seesPart O.hi hjl (Nat.le_refl _) hic (Nat.le_refl _)
  have s1 : ∀ W, (Instr.slice 22 (.slice ra o.items.length rcap) (some (.int .i64 i)) (some (.int .i64 j)) (some (.int .i64 j))).run Try.prog W = .ok (.slice a1 (j - i) (j - i)) W := fun W => by
    rw [run_slice_lhm W _ _ _ _ hu _ _ _ _ _ _ (by omega) (by omega) (by omega) (by omega), hsz]
    exact congrArg (fun x => Result.ok x W) ha1
  have s2 : ∀ W, (Instr.slice 22 (.slice ra o.items.length rcap) none (some (.int .i64 i)) (some (.int .i64 i))).run Try.prog W = .ok (.slice a2 i i) W := fun W => by
    rw [run_slice_hm W _ _ _ _ hu _ _ _ _ (by omega) (by omega) (by omega), hsz]
    exact congrArg (fun x => Result.ok x W) ha2
  have s3 : ∀ W, (Instr.slice 22 (.slice ra o.items.length rcap) (some (.int .i64 j)) none none).run Try.prog W = .ok (.slice a3 (o.items.length - j) (rcap - j)) W := fun W => by
    rw [run_slice_l W _ _ _ _ hu _ _ (by omega) (by omega), hsz]
    exact congrArg (fun x => Result.ok x W) ha3
  have HS1 := Lib.hid sees1
  have HS2 := Lib.hid sees2
  have HS3 := Lib.hid sees3
  have HSV := Lib.hid hs
  have k3 := O.k3
  have c1 := O.c1
  obtain ⟨sa, scap, rfl, hsa⟩ := hs
  have b1 : (i : Int) ≤ j := by omega
  have b2 : (j : Int) ≤ o.items.length := by omega
  have HLN := Lib.hid hlen
  clear hh g O hsa ha1 ha2 ha3 sees1 sees2 sees3 hu hsz hic hlen hij hjl
  simp only [V.val] at HO ⊢
  go_enter Try.func14, Try.ntmps14
  go_wp2_with fail
  refine (HO.out _ (by below_tac)).mono ?_
  rintro e w1 ⟨rfl, hb1⟩
  have hB : Below w.heap.size w w1 := by below_by hb1
  obtain ⟨q0, q1, q2, q3, q4⟩ := HK.out _ hB
  go_wp2_with fail
  have hO1 : Outside [mr] w w1 := Outside.of_below hB _
  refine (heap_hold _ h mr 1 _ l r (hO1.cell c1 (by simpa using OO.out.hr.ne_cell c1)) (OO.out.hr.of_block (hB.block mr OO.out.hr.lt)) (HSV.out.keep fun p v hp => cellBelow hp hB)).mono ?_
  rintro e w2 ⟨⟨_, rfl⟩, hm2, ho2⟩
  have hO2 : Outside [mr] w w2 := hO1.trans ho2 (Grow.refl _ _)
  have K3 := OO.out.keep hO2 k3
  clear q0 q1 q2 q3 q4
  go_wp2_with fail
  refine (heap_hold _ h mr (-1) _ _ (holdL 1 l r) (OO.out.keep hO2 c1) hm2 (HS1.out.keep fun p v hp => OO.out.keep hO2 hp)).mono ?_
  rintro e w3 ⟨⟨_, rfl⟩, hm3, ho3⟩
  have hO3 : Outside [mr] w w3 := hO2.trans ho3 (Grow.refl _ _)
  have L3 := OO.out.keep hO3 k3
  have HM3 := Lib.hid (And.intro hm3 hO3)
  have hbk : w3.heap[b]? = some (objBlock o (.slice ra o.items.length rcap) d) := hO3.keepB OO.out.ho (by
    have nd := OO.out.nd
    simp only [List.cons_append, List.nodup_cons, List.mem_cons, not_or] at nd
    simp only [List.mem_singleton]; exact fun e => nd.2.2.1.1 e.symm)
  have HBK := Lib.hid hbk
  have HF := Lib.hid (fun W (hW : Below w3.heap.size w3 W) => show W.frozen? ⟨b, 3, none⟩ = false from frozenAt (blockBelow hbk hW) 3)
  clear hbk
  clear K3 hm2 ho2 hm3 ho3 hO2 hO1 hO3 c1 k3
  obtain ⟨X, hX⟩ : ∃ X, o.items.take i ++ l ++ o.items.drop j = X := ⟨_, rfl⟩
  have HX := Lib.hid hX
  clear hX
  have HC : Hid (∀ (W : World) (B : Nat), W.heap[B]? = some (.cells #[.slice a2 i i, .slice sa l.length scap, .slice a3 (o.items.length - j) (rcap - j)] 22) → Below w3.heap.size w3 W →
      Calls Try.prog 47 #[.slice (some ⟨B, 0, none⟩) 3 3] W (CatPost X W)) := by
    intro W B hBl hW
    have hk : ∀ p u, w.cell? p = some u → W.cell? p = some u := fun p u hp => cellBelow (OO.out.keep HM3.out.2 hp) hW
    have := concat_vals W B 3 [(.slice a2 i i, o.items.take i), (.slice sa l.length scap, l), (.slice a3 (o.items.length - j) (rcap - j), o.items.drop j)] ?_ (by simp) (by simp) ?_
    · refine this.mono fun e w' ⟨v, h1, h2, h3⟩ => ⟨v, h1, ?_, h3⟩
      rw [← HX.out]; simpa using h2
    · intro n sv l' hx
      match n, hx with
      | 0, hx => simp at hx; obtain ⟨rfl, rfl⟩ := hx; exact ⟨cellAt hBl 0 rfl, by have := HS2.out.keep hk; simpa using this⟩
      | 1, hx => simp at hx; obtain ⟨rfl, rfl⟩ := hx; exact ⟨cellAt hBl 1 rfl, HSV.out.keep hk⟩
      | 2, hx => simp at hx; obtain ⟨rfl, rfl⟩ := hx; exact ⟨cellAt hBl 2 rfl, by have := HS3.out.keep hk; rwa [List.take_of_length_le (by simp)] at this⟩
      | n + 3, hx => simp at hx
    · simp only [List.flatMap_cons, List.flatMap_nil, List.append_nil, List.length_append, List.length_take, List.length_drop]
      have := HLN.out; omega
  go_wp2_with fail
  go_region_law (go_simp; go_at_call 47; refine (HC.out _ _ ?_ ?_).mono ?_; (exact heapAllocNew _ _); below_tac; rintro e w4 ⟨v4, rfl, d1, d2, d3⟩; obtain ⟨va, vc, rfl⟩ := d1.form; have hb34 : Below w3.heap.size w3 w4 := (by below_by d3); have L4 := cellBelow L3 hb34; have F4 := HF.out w4 hb34)
  all_goals go_wp2
  all_goals go_ret
  all_goals unfold ReplPost
  all_goals rw [HX.out]
  all_goals refine ⟨rfl, repl_shut OO.out HM3.out.2 HM3.out.1 hb34 d1 (fun y hy => Nat.le_trans (by simp only [size_drew, World.size_alloc]; omega) (d2 y hy)) fun m => ?_⟩
  all_goals
    rw [cntL_holdL (-1) _ (cntL_holdL 1 l OO.out.hc) m]
    congr 1
    have h1 := cnt_splice i j b1 l o.items m
    rw [HX.out] at h1
    omega
end Go.Proofs.Ytoancpjlkhijiaa
