import Derived.Test.YtijlebhoapdfnaaGreatHeapB
import Derived.Test.YtijlebhoapdfnaaGreatDictC
import Derived.Lib.AppendZeros
import Derived.Deep.RegionHeld3
import Derived.Deep.RegionLaw
/- The heap: Del. -/
set_option maxRecDepth 100000
set_option maxHeartbeats 1600000
namespace Go.Proofs.YtijlebhoapdfnaaGreat
set_option linter.unusedSimpArgs false
open Go.RowKit
set_option linter.unusedVariables false
end Go.Proofs.YtijlebhoapdfnaaGreat
/- slices.Grow, slices.Concat at values. -/
namespace Go.Proofs.YtijlebhoapdfnaaGreat
set_option linter.unusedSimpArgs false
open Go.RowKit
set_option linter.unusedVariables false
theorem run_append_nothing {P : Program} (w : World) (t ty e : TypeId) (i : TypeInfo) (ht : P.underlying t = some (.slice e)) (hi : P.info? e = some i) (b : Option Addr) (n cap c : Nat) (h : n ≤ cap) :
  (Builtin.append_ #[t, t] ty #[.slice b n cap, .slice none 0 c]).run P w = .ok (.slice b n cap) w := by
 cases b with
 | none => simp [Builtin.append_, run_underlying ht, sizeOf, typeInfo, hi, Builtin.lenOf, Builtin.firstCells, h]
 | some b => simp [Builtin.append_, run_underlying ht, sizeOf, typeInfo, hi, Builtin.lenOf, Builtin.firstCells, loadCells, h, storeCells]
theorem grow_vals (w : World) (n : Nat) (hn : n ≤ 4194304) : Calls Tryz.prog 173 #[.slice none 0 0, .int .i64 n] w fun e w' =>
  ∃ v, e = .returned v ∧ slIs w' 24 3 V.cells v [] ∧ (∀ b, v.ownBlock = some b → w.heap.size ≤ b) ∧ Below w.heap.size w w' := by
 by_cases h0 : n = 0
 ·
  subst h0
  go_enter Tryz.func173, Tryz.ntmps173
  go_wp2
  go_returns
  exact ⟨_, rfl, World.ownsRow_nil _ _ _ _, by simp [Value.ownBlock], Below.refl _ _⟩
 ·
  obtain ⟨i0, hi, iz0, iz1, iz2⟩ := info_parts info_val
  have hrun := fun ty => Lib.run_append_nil_zeros (P := Tryz.prog) w 56 3 ty 24 i0 _ .i64 .i64 Tryz.underlying56 Tryz.underlying3 hi iz0 n (by omega) (by omega) (by omega) (by rw [iz2]; omega)
  have hge := grownCap_ge w n 0 24
  have hle := grownCap_le_maxLen w n 0 24 (Nat.le_trans hn (by decide))
  generalize grownCap w n 0 24 = cap at hrun hge hle
  have hpos : (0 : Int) < n := by omega
  have hpos' : ((n : Int) < 0) = False := by simp
  have hwr : IntKind.i64.wrap ((n : Int) - 0) = n := by rw [IntKind.wrap_i64]; omega
  have HN := Lib.hid hn
  have H0 := Lib.hid h0
  have hcap9 : (cap : Int) ≤ 9223372036854775807 := by unfold maxLen at hle; omega
  have HLE := Lib.hid hle
  clear hn h0 iz0 iz1 iz2 hi hle
  go_enter Tryz.func173, Tryz.ntmps173
  go_wp2_with (at_builtin; refine Lib.wpList_append_run _ rfl _ _ _ _ rfl _ _ rfl rfl _ _ (hrun _) ?_)
  go_returns
  refine ⟨_, rfl, ⟨rfl, .inr ⟨w.heap.size, cap, _, rfl, Nat.zero_le _, heapAllocNew w.drew _, Nat.zero_le _, HLE.out, ?_, by simp⟩⟩, by intro b hb; cases hb; exact Nat.le_refl _, ((Below.refl _ _).drew).alloc (Nat.le_refl _) _⟩
  simp only [Array.size_append, size_zeroCells]
  simp
  omega
/-- What is put together, and where it lies. -/
def SeesAll (w : World) (B : Nat) (ss : List (Value × List V)) : Prop := ∀ (i : Nat) sv l, ss[i]? = some (sv, l) → w.cell? ⟨B, i, none⟩ = some sv ∧ SeesV w sv l
def catLen (ss : List (Value × List V)) (k : Nat) : Nat := ((ss.take k).flatMap (·.2)).length
theorem catLen_succ {ss : List (Value × List V)} {k : Nat} {sv : Value} {l : List V} (h : ss[k]? = some (sv, l)) : catLen ss (k + 1) = catLen ss k + l.length := by
 unfold catLen; rw [List.take_add_one, h]; simp
theorem catLen_le (ss : List (Value × List V)) (k : Nat) : catLen ss k ≤ (ss.flatMap (·.2)).length := by
 unfold catLen
 conv => rhs; rw [← List.take_append_drop k ss, List.flatMap_append, List.length_append]
 omega
def CatRel (w : World) (ss : List (Value × List V)) (k : Nat) (v : Value) (wr : World) : Prop :=
 slIs wr 24 3 V.cells v ((ss.take k).flatMap (·.2)) ∧ (∀ b, v.ownBlock = some b → w.heap.size ≤ b) ∧ Below w.heap.size w wr
theorem slIs.below {α : Type} {w w' : World} {e : TypeId} {m : Nat} {f : α → List Value} {rv : Value} {l : List α} (h : slIs w e m f rv l) (hb : Below w.heap.size w w') : slIs w' e m f rv l := h.of_block fun g hg => hb.block g (h.lt g hg)
theorem concat_vals (w : World) (B c : Nat) (ss : List (Value × List V)) (hs : SeesAll w B ss) (hn : ss.length ≤ 1000) (hc : ss.length ≤ c) (hlen : (ss.flatMap (·.2)).length ≤ 4194304) :
  Calls Tryz.prog 131 #[.slice (some ⟨B, 0, none⟩) ss.length c] w fun e w' =>
   ∃ v, e = .returned v ∧ slIs w' 24 3 V.cells v (ss.flatMap (·.2)) ∧ (∀ b, v.ownBlock = some b → w.heap.size ≤ b) ∧ Below w.heap.size w w' := by
 have HS := Lib.hid hs
 have HL := Lib.hid hlen
 have HN := Lib.hid hn
 have hbig : (ss.length : Int) ≤ 9223372036854775807 := by omega
 clear hs hlen hn
 go_enter Tryz.func131, Tryz.ntmps131
 go_wp2
 go_loop [3, 11] (fun t i => ∃ k : Nat, k ≤ ss.length ∧ i = .int .i64 k ∧ t = .int .i64 (catLen ss k)) (fun _ i => ss.length - (intOf i).toNat)
 case atStart => exact ⟨0, by omega, rfl, rfl⟩
 case round =>
  obtain ⟨k, hk, rfl, rfl⟩ := hrel
  by_cases hlt : k < ss.length
  ·
   obtain ⟨⟨sv, l⟩, hx⟩ : ∃ x, ss[k]? = some x := ⟨ss[k], by simp [hlt]⟩
   obtain ⟨hcell, a, cap, rfl, q1, q2, q3⟩ := HS.out k sv l hx
   have HX := Lib.hid (catLen_succ hx)
   have hle1 := catLen_le ss (k + 1)
   rw [catLen_succ hx] at hle1
   have hH := HL.out
   have hb1 : (catLen ss k : Int) + l.length ≤ 4194304 := by omega
   have hil : (k : Int) < ss.length := by omega
   unfold maxLen at q2
   clear hx q3 hle1 hH
   go_wp2
   go_round
   case rel => exact ⟨k + 1, by omega, by go_num, by rw [HX.out]; go_num⟩
   case measure => simp [intOf]; omega
  ·
   have : k = ss.length := by omega
   subst this
   have hle1 := catLen_le ss ss.length
   have hH := HL.out
   have hG := Lib.hid (fun W => grow_vals W (catLen ss ss.length) (by omega))
   clear hle1 hH
   go_wp2_with fail
   refine (hG.out _).mono ?_
   rintro e w1 ⟨v1, rfl, d1, d2, d3⟩
   go_wp2
   go_loopw [6, 27] (fun v i wr => ∃ k : Nat, k ≤ ss.length ∧ i = .int .i64 k ∧ CatRel w ss k v wr) (fun _ i _ => ss.length - (intOf i).toNat)
   case atStart => exact ⟨0, by omega, rfl, by simpa using d1, d2, d3⟩
   case round =>
    clear d1 d2 d3
    obtain ⟨k, hk, rfl, d1, d2, d3⟩ := hrel
    by_cases hlt : k < ss.length
    ·
     obtain ⟨⟨sv, l⟩, hx⟩ : ∃ x, ss[k]? = some x := ⟨ss[k], by simp [hlt]⟩
     obtain ⟨hcell, hsv⟩ := HS.out k sv l hx
     have hcell1 := cell_later d3 hcell
     have hsv1 := hsv.keep (w' := wr) fun p v hp => cell_later d3 hp
     obtain ⟨a, cap, rfl, q1, q2, q3⟩ := hsv1
     have hil : (k : Int) < ss.length := by omega
     have hst : (ss.take (k + 1)).flatMap (·.2) = (ss.take k).flatMap (·.2) ++ l := by rw [List.take_add_one, hx]; simp
     have hle1 := catLen_le ss (k + 1)
     rw [catLen_succ hx] at hle1
     unfold catLen at hle1
     generalize hxs : (ss.take k).flatMap (·.2) = xs at *
     obtain ⟨va, vcap, rfl⟩ := d1.form
     have HST := Lib.hid hst
     have HLE := Lib.hid hle1
     have hvc : xs.length ≤ vcap := by rcases d1.shape with ⟨h1, h2⟩ | ⟨g', cap, h1, h2, _⟩; (rw [h2]; exact Nat.zero_le _); (cases h1; exact h2)
     obtain ⟨i0, hi, iz0, iz1, iz2⟩ := info_parts info_val
     clear hx hst hxs hle1 hcell hsv
     cases a with
     | none =>
      have hl : l = [] := by
       rcases q3 with h | ⟨g, o, h, _⟩
       ·
        exact h
       ·
        cases h
      subst hl
      simp only [List.length_nil] at hcell1
      have hrun := fun ty => run_append_nothing (P := Tryz.prog) wr 56 ty 24 i0 Tryz.underlying56 hi va xs.length vcap cap hvc
      clear hvc q1 q2 q3
      go_wp2_with (at_builtin; refine Lib.wpList_append_run _ rfl _ _ _ _ rfl _ _ rfl rfl _ _ (hrun _) ?_)
      refine ⟨⟨k + 1, by omega, by go_num, ?_, d2, d3⟩, by simp [intOf]; omega⟩
      rw [HST.out, List.append_nil]; exact d1
     | some p =>
      have hcells : ∀ j u, (l.flatMap V.cells)[j]? = some u → wr.cell? (p.add j) = some u := by
       rcases q3 with h | ⟨g, o, h, hh⟩
       ·
        subst h; intro j u hu; simp at hu
       ·
        cases h; exact SeesV.cells hh
      have HC := Lib.hid hcells
      have D1 := Lib.hid d1
      have hxl : xs.length ≤ 4194304 := by have := HLE.out; have := HL.out; omega
      have HXL := Lib.hid hxl
      clear q1 q2 q3 hcells d1 hxl
      go_wp2_with (at_builtin; refine wpList_append_own_at _ rfl _ _ 56 rfl 0 24 i0 _ 3 32 Tryz.underlying56 hi iz0 iz1 iz2 rfl (by decide) _ xs.length (xs.flatMap V.cells) rfl D1.out p l.length cap (l.flatMap V.cells) rfl ?c1 ?c2 ?c3 ?c4 ?c5 ?c6 ?_)
      case c1 => exact flatMap_length V.cells 3 V.cells_len l
      case c2 => exact HC.out
      case c3 => intro u hu; obtain ⟨v, _, hv⟩ := List.mem_flatMap.1 hu; simp [V.cells] at hv; rcases hv with rfl | rfl | rfl <;> rfl
      case c4 => have := HLE.out; have := HL.out; exact Nat.le_trans (show xs.length + l.length ≤ 4194304 by omega) (by decide)
      case c5 => have := HLE.out; have := HL.out; omega
      case c6 => exact Nat.zero_le _
      intro v' w1 hown hgr hnil hat
      have HI := Lib.hid (And.intro hown (And.intro hgr hat))
      clear hown hgr hnil hat
      go_wp2
      obtain ⟨hown, hgr, hat⟩ := HI.out
      refine ⟨⟨k + 1, by omega, by go_num, ?_, ?_, ?_⟩, by simp [intOf]; omega⟩
      ·
       rw [HST.out]
       refine ⟨flatMap_length _ _ V.cells_len _, ?_⟩
       have := hown.2
       rw [List.flatMap_append, List.length_append]
       exact this
      ·
       intro b hb
       rcases hat with e | e
       ·
        exact d2 b (by rw [← e]; exact hb)
       ·
        rw [e] at hb; cases hb; exact d3.size
      ·
       exact d3.grown hgr d3.size (fun k hk => d2 k hk)
    ·
     have : k = ss.length := by omega
     subst this
     rw [List.take_length] at d1
     obtain ⟨oa, ocap, rfl⟩ := d1.form
     go_wp2
     go_ret
     exact ⟨_, rfl, d1, d2, d3⟩
end Go.Proofs.YtijlebhoapdfnaaGreat
/- The heap: Replace. -/
namespace Go.Proofs.YtijlebhoapdfnaaGreat
set_option linter.unusedSimpArgs false
open Go.RowKit
set_option linter.unusedVariables false
def HeapM.replace (H : HeapM) (v : V) (i j : Int) (l : List V) : HeapM := match H.of v with | some o => if 0 ≤ i ∧ i ≤ j ∧ j ≤ o.items.length then H.set v.n { o with items := o.items.take i.toNat ++ l ++ o.items.drop j.toNat } else H | none => H
def HeapM.canReplace (H : HeapM) (v : V) (i j : Int) : Bool := match H.of v with | some o => decide (0 ≤ i ∧ i ≤ j ∧ j ≤ o.items.length) | none => false
theorem slIs.caps {α : Type} {w : World} {e : TypeId} {m : Nat} {f : α → List Value} {l : List α} {a : Option Addr} {n c : Nat} (h : slIs w e m f (.slice a n c) l) : n = l.length ∧ l.length ≤ c ∧ c ≤ maxLen := by
 rcases h.shape with ⟨h1, h2⟩ | ⟨g', cap, h1, h2, h3, _⟩
 ·
  obtain ⟨_, e2, e3⟩ := Value.slice.inj h1
  subst h2; subst e2; subst e3; exact ⟨rfl, Nat.le_refl _, by decide⟩
 ·
  obtain ⟨_, e2, e3⟩ := Value.slice.inj h1
  subst e2; subst e3; exact ⟨rfl, h2, h3⟩
/-- Part of a slice that shows values. -/
theorem seesPart {w : World} {ra : Option Addr} {l : List V} {c : Nat} (h : slIs w 24 3 V.cells (.slice ra l.length c) l) {i j m : Nat} (hij : i ≤ j) (hjl : j ≤ l.length) (hjm : j ≤ m) (hmc : m ≤ c) :
  ∃ a, sliced ra i j m 3 = .slice a (j - i) (m - i) ∧ SeesV w (.slice a (j - i) (m - i)) ((l.drop i).take (j - i)) := by
 refine ⟨_, rfl, ?_⟩
 have hlen : ((l.drop i).take (j - i)).length = j - i := by rw [List.length_take, List.length_drop]; omega
 have hcm : m ≤ maxLen := Nat.le_trans hmc h.caps.2.2
 refine ⟨_, _, by rw [hlen], by rw [hlen]; omega, by omega, ?_⟩
 by_cases he : j = i
 ·
  left; subst he; simp
 ·
  right
  rcases h.shape with ⟨h1, h2⟩ | ⟨g, cap, h1, h2, h3, h4⟩
  ·
   rw [h2] at hjl; simp at hjl; omega
  ·
   have hmi : ¬ m = i := by omega
   have e1 := (Value.slice.inj h1).1
   subst e1
   refine ⟨g, i * 3, ?_, fun k v hv => ?_⟩
   ·
    simp [hmi, Addr.add]; omega
   ·
    have hk : k < j - i := by have := (List.getElem?_eq_some_iff.1 hv).1; rwa [hlen] at this
    rw [List.getElem?_take, if_pos hk, List.getElem?_drop] at hv
    have j0 := h.cell V.cells_len rfl hv (j := 0) rfl
    rw [Nat.add_zero, Nat.add_mul] at j0
    have j1 := h.cell V.cells_len rfl hv (j := 1) rfl
    rw [Nat.add_mul] at j1
    have j2 := h.cell V.cells_len rfl hv (j := 2) rfl
    rw [Nat.add_mul] at j2
    exact ⟨j0, j1, j2⟩
theorem cnt_splice (i j : Nat) (hij : (i : Int) ≤ j) (l items : List V) (m : Int) : cnt (items.take i ++ l ++ items.drop j) m = cnt items m + 1 * cnt l m + -1 * cnt ((items.drop i).take (j - i)) m := by
 have e : items = items.take i ++ ((items.drop i).take (j - i) ++ items.drop j) := by
  conv => lhs; rw [← List.take_append_drop i items]
  congr 1
  conv => lhs; rw [← List.take_append_drop (j - i) (items.drop i)]
  rw [List.drop_drop, show i + (j - i) = j by omega]
 have h1 : cnt items m = cnt (items.take i) m + (cnt ((items.drop i).take (j - i)) m + cnt (items.drop j) m) := by
  conv => lhs; rw [e]
  rw [cnt_append, cnt_append]
 rw [cnt_append, cnt_append]
 omega
section
variable {w : World} {h : Nat} {H : HeapM} {ε : Int → Int} {F : List Nat} {v : V} {o : ObjM} {ma mr b d : Nat} {rv : Value} {G : List Nat} {obs : List (Int × Nat)} {r : List (Int × Int)}
/-- The items were replaced, and the counts. -/
theorem repl_shut (O : OpenAt w h H ε F v o ma mr b d rv G obs r) {w3 w4 : World} {r' : List (Int × Int)} {v4 : Value} {l : List V} (hO : Outside [mr] w w3) (hm : mapIs w3 Tryz.prog 2 ekI exI mr r') (hb : Below w3.heap.size w3 w4)
  (hi : slIs w4 24 3 V.cells v4 l) (hf : ∀ y, v4.ownBlock = some y → w3.heap.size ≤ y)
  (hr : ∀ m, cntL r' m = wrap64 (cnt (allVals H.objs) m - cnt o.items m + cnt l m + ε m)) : HeapPost h (H.set v.n { o with items := l }) ε F w (w4.setCell ⟨b, 3, none⟩ v4) := by
 have nd := O.nd
 have hlt : ∀ y ∈ G, y < w.heap.size := O.hdict.lt
 have hbl := blockLt O.ho
 have hsz := hO.size
 simp only [List.cons_append, List.nodup_cons, List.mem_cons, List.mem_append, List.nodup_append, not_or] at nd
 obtain ⟨⟨a1, a2, a3, a4, a5⟩, ⟨b1, b2, b3, b4⟩, ⟨c1, c2, c3⟩, ⟨d1, d2⟩, e1, e2, e3⟩ := nd
 have hout : Outside [mr, b] w (w4.setCell ⟨b, 3, none⟩ v4) := ((hO.trans (Outside.of_below hb [mr]) (Grow.refl _ _)).mono (by simp)).setCell (.inl (by simp)) _
 have hblk : (w4.setCell ⟨b, 3, none⟩ v4).heap[b]? = some (objBlock { o with items := l } v4 d) := by
  have h3 : w3.heap[b]? = some (objBlock o rv d) := hO.keepB O.ho (by simp only [List.mem_singleton]; exact fun e => c1 e.symm)
  exact heap_setCell_same (blockBelow h3 hb) 3 v4
 have hw2 : ∀ k, k < w.heap.size → k ≠ mr → k ≠ b → (w4.setCell ⟨b, 3, none⟩ v4).heap[k]? = w.heap[k]? := fun k hk h1 h2 => hout.block k hk (by simp [h1, h2])
 refine O.shut _ { o with items := l } v4 G r' ε hblk ?_ ?_ ?_ (O.counts _ fun m => ?_) ?_ ?_ (hout.mono (by simp))
 ·
  refine hi.of_block fun g hg => Below.heap_setCell _ _ _ _ ?_
  show g ≠ b
  have := hf g hg; omega
 ·
  refine O.hdict.of_block fun k hk => hw2 k (hlt k hk) ?_ ?_
  ·
   intro e; subst e; exact c3 hk
  ·
   intro e; subst e; exact d2 hk
 ·
  exact (hm.of_block (hb.block mr hm.lt)).of_block (Below.heap_setCell _ _ _ _ c1)
 ·
  rw [hr]
  congr 1
  have h1 : cnt ({ o with items := l } : ObjM).vals m = cnt l m + cnt (o.pairs.map (·.2)) m := cnt_append _ _ _
  have h2 : cnt o.vals m = cnt o.items m + cnt (o.pairs.map (·.2)) m := cnt_append _ _ _
  omega
 ·
  have hown : ∀ y ∈ v4.ownBlock.toList, w.heap.size ≤ y := fun y hy => by have := hf y (by simpa using hy); omega
  simp only [List.cons_append, List.nodup_cons, List.mem_append, List.nodup_append, not_or]
  refine ⟨⟨fun h => ?_, d2⟩, ?_, e2, fun y hy z hz e => ?_⟩
  ·
   have := hown b h; omega
  ·
   cases v4.ownBlock <;> simp
  ·
   subst e; have := hown y hy; have := hlt y hz; omega
 ·
  intro y hy
  simp only [List.cons_append, List.mem_cons, List.mem_append] at hy ⊢
  rcases hy with h | h | h
  ·
   exact .inl (.inl h)
  ·
   exact .inr (by have := hf y (by simpa using h); omega)
  ·
   exact .inl (.inr (.inr h))
end
def CatPost (l : List V) (w : World) (e : Ending) (w' : World) : Prop := ∃ v, e = .returned v ∧ slIs w' 24 3 V.cells v l ∧ (∀ b, v.ownBlock = some b → w.heap.size ≤ b) ∧ Below w.heap.size w w'
def ReplPost (h : Nat) (H : HeapM) (ε : Int → Int) (F : List Nat) (w : World) (v : V) (i j : Nat) (l : List V) (o : ObjM) (e : Ending) (w' : World) : Prop :=
 e = .returned (.bool true) ∧ HeapPost h (H.set v.n { o with items := o.items.take i ++ l ++ o.items.drop j }) ε F w w'
theorem heap_replace_yes (w : World) (h : Nat) (v : V) (i j : Nat) (sv : Value) (l : List V) {H : HeapM} {ε : Int → Int} {F : List Nat} {o : ObjM} (hh : HeapIs w h H ε F) (g : H.of v = some o) (hs : SeesV w sv l) (hij : i ≤ j) (hjl : j ≤ o.items.length)
  (hlen : o.items.length + l.length ≤ 4194304) :
  Calls Tryz.prog 43 #[.pointer (some ⟨h, 0, none⟩), v.val, .int .i64 i, .int .i64 j, sv] w (ReplPost h H ε F w v i j l o) := by
 obtain ⟨ma, mr, b, d, rv, G, obs, r, O⟩ := hh.open g
 have HO := Lib.hid O.of
 have HK := Lib.hid O.cells
 have OO := Lib.hid O
 obtain ⟨ra, rcap, hrv⟩ := O.hi.form
 subst hrv
 have hic : o.items.length ≤ rcap := O.hi.caps.2.1
 have hu : Tryz.prog.underlying 56 = some (.slice (Tryz.prog.elem 56)) := by kernel_rfl
 have hsz : ∀ W, (sizeOf (Tryz.prog.elem 56)).run Tryz.prog W = .ok 3 W := fun W => by kernel_rfl
 obtain ⟨a1, ha1, sees1⟩ := seesPart O.hi hij hjl (Nat.le_refl _) (Nat.le_trans hjl hic)
 obtain ⟨a2, ha2, sees2⟩ := seesPart O.hi (Nat.zero_le i) (Nat.le_trans hij hjl) (Nat.le_refl i) (Nat.le_trans hij (Nat.le_trans hjl hic))
 obtain ⟨a3, ha3, sees3⟩ := seesPart O.hi hjl (Nat.le_refl _) hic (Nat.le_refl _)
 have s1 : ∀ W, (Instr.slice 56 (.slice ra o.items.length rcap) (some (.int .i64 i)) (some (.int .i64 j)) (some (.int .i64 j))).run Tryz.prog W = .ok (.slice a1 (j - i) (j - i)) W := fun W => by
  rw [run_slice_lhm W _ _ _ _ hu _ _ _ _ _ _ (by omega) (by omega) (by omega) (by omega), hsz]
  exact congrArg (fun x => Result.ok x W) ha1
 have s2 : ∀ W, (Instr.slice 56 (.slice ra o.items.length rcap) none (some (.int .i64 i)) (some (.int .i64 i))).run Tryz.prog W = .ok (.slice a2 i i) W := fun W => by
  rw [run_slice_hm W _ _ _ _ hu _ _ _ _ (by omega) (by omega) (by omega), hsz]
  exact congrArg (fun x => Result.ok x W) ha2
 have s3 : ∀ W, (Instr.slice 56 (.slice ra o.items.length rcap) (some (.int .i64 j)) none none).run Tryz.prog W = .ok (.slice a3 (o.items.length - j) (rcap - j)) W := fun W => by
  rw [run_slice_l W _ _ _ _ hu _ _ (by omega) (by omega), hsz]
  exact congrArg (fun x => Result.ok x W) ha3
 have HS1 := Lib.hid sees1
 have HS2 := Lib.hid sees2
 have HS3 := Lib.hid sees3
 have HSV := Lib.hid hs
 have k3 := O.k3
 have c1 := O.c1
 obtain ⟨sa, scap, rfl, hsa⟩ := hs
 have b1 : (i : Int) ≤ j := by omega
 have b2 : (j : Int) ≤ o.items.length := by omega
 have HLN := Lib.hid hlen
 clear hh g O hsa ha1 ha2 ha3 sees1 sees2 sees3 hu hsz hic hlen hij hjl
 simp only [V.val] at HO ⊢
 go_enter Tryz.func43, Tryz.ntmps43
 go_wp2_with fail
 refine (HO.out _ belowA).mono ?_
 rintro e w1 ⟨rfl, hb1⟩
 have hB : Below w.heap.size w w1 := by exact Below.next belowA hb1 (by (try simp only [World.size_alloc, size_drew, size_drewN, size_setCell]); omega)
 obtain ⟨q0, q1, q2, q3, q4⟩ := HK.out _ hB
 go_wp2_with fail
 have hO1 : Outside [mr] w w1 := Outside.of_below hB _
 refine (heap_hold _ h mr 1 _ l r (hO1.cell c1 (by simpa using OO.out.hr.ne_cell c1)) (OO.out.hr.of_block (hB.block mr OO.out.hr.lt)) (HSV.out.keep fun p v hp => cellBelow hp hB)).mono ?_
 rintro e w2 ⟨⟨_, rfl⟩, hm2, ho2⟩
 have hO2 : Outside [mr] w w2 := hO1.trans ho2 (Grow.refl _ _)
 have K3 := OO.out.keep hO2 k3
 clear q0 q1 q2 q3 q4
 go_wp2_with fail
 refine (heap_hold _ h mr (-1) _ _ (holdL 1 l r) (OO.out.keep hO2 c1) hm2 (HS1.out.keep fun p v hp => OO.out.keep hO2 hp)).mono ?_
 rintro e w3 ⟨⟨_, rfl⟩, hm3, ho3⟩
 have hO3 : Outside [mr] w w3 := hO2.trans ho3 (Grow.refl _ _)
 have L3 := OO.out.keep hO3 k3
 have HM3 := Lib.hid (And.intro hm3 hO3)
 have hbk : w3.heap[b]? = some (objBlock o (.slice ra o.items.length rcap) d) := hO3.keepB OO.out.ho (by
  have nd := OO.out.nd
  simp only [List.cons_append, List.nodup_cons, List.mem_cons, not_or] at nd
  simp only [List.mem_singleton]; exact fun e => nd.2.2.1.1 e.symm)
 have HBK := Lib.hid hbk
 have HF := Lib.hid (fun W (hW : Below w3.heap.size w3 W) => show W.frozen? ⟨b, 3, none⟩ = false from frozenAt (blockBelow hbk hW) 3)
 clear hbk
 clear K3 hm2 ho2 hm3 ho3 hO2 hO1 hO3 c1 k3
 obtain ⟨X, hX⟩ : ∃ X, o.items.take i ++ l ++ o.items.drop j = X := ⟨_, rfl⟩
 have HX := Lib.hid hX
 clear hX
 have HC : Hid (∀ (W : World) (B : Nat), W.heap[B]? = some (.cells #[.slice a2 i i, .slice sa l.length scap, .slice a3 (o.items.length - j) (rcap - j)] 56) → Below w3.heap.size w3 W →
   Calls Tryz.prog 131 #[.slice (some ⟨B, 0, none⟩) 3 3] W (CatPost X W)) := by
  intro W B hBl hW
  have hk : ∀ p u, w.cell? p = some u → W.cell? p = some u := fun p u hp => cellBelow (OO.out.keep HM3.out.2 hp) hW
  have := concat_vals W B 3 [(.slice a2 i i, o.items.take i), (.slice sa l.length scap, l), (.slice a3 (o.items.length - j) (rcap - j), o.items.drop j)] ?_ (by simp) (by simp) ?_
  ·
   refine this.mono fun e w' ⟨v, h1, h2, h3⟩ => ⟨v, h1, ?_, h3⟩
   rw [← HX.out]; simpa using h2
  ·
   intro n sv l' hx
   match n, hx with
   | 0, hx => simp at hx; obtain ⟨rfl, rfl⟩ := hx; exact ⟨cellAt hBl 0 rfl, by have := HS2.out.keep hk; simpa using this⟩
   | 1, hx => simp at hx; obtain ⟨rfl, rfl⟩ := hx; exact ⟨cellAt hBl 1 rfl, HSV.out.keep hk⟩
   | 2, hx => simp at hx; obtain ⟨rfl, rfl⟩ := hx; exact ⟨cellAt hBl 2 rfl, by have := HS3.out.keep hk; rwa [List.take_of_length_le (by simp)] at this⟩
   | n + 3, hx => simp at hx
  ·
   simp only [List.flatMap_cons, List.flatMap_nil, List.append_nil, List.length_append, List.length_take, List.length_drop]
   have := HLN.out; omega
 go_wp2_with fail
 go_region_law (go_simp; go_at_call 131; refine (HC.out _ _ ?_ ?_).mono ?_; (exact heapAllocNew _ _); exact belowA; rintro e w4 ⟨v4, rfl, d1, d2, d3⟩; obtain ⟨va, vc, rfl⟩ := d1.form; have hb34 : Below w3.heap.size w3 w4 := (by exact Below.next belowA d3 (by (try simp only [World.size_alloc, size_drew, size_drewN, size_setCell]); omega)); have L4 := cellBelow L3 hb34; have F4 := HF.out w4 hb34)
 all_goals go_wp2
 all_goals go_ret
 all_goals unfold ReplPost
 all_goals rw [HX.out]
 all_goals refine ⟨rfl, repl_shut OO.out HM3.out.2 HM3.out.1 hb34 d1 (fun y hy => Nat.le_trans (by simp only [size_drew, World.size_alloc]; omega) (d2 y hy)) fun m => ?_⟩
 all_goals
  rw [cntL_holdL (-1) _ (cntL_holdL 1 l OO.out.hc) m]
  congr 1
  have h1 := cnt_splice i j b1 l o.items m
  rw [HX.out] at h1
  omega
end Go.Proofs.YtijlebhoapdfnaaGreat
