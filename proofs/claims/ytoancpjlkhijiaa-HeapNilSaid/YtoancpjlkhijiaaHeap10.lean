/- The heap: Keys, Refs. -/
import Derived.Test.YtoancpjlkhijiaaHeap9
namespace Go.Proofs.Ytoancpjlkhijiaa
open Go.RowKit
set_option linter.unusedVariables false
def intCell (n : Int) : List Value := [.int .i64 n]
theorem intCell_len (n : Int) : (intCell n).length = 1 := rfl
theorem info_int64 : (Try.prog.info? 2).map (fun i => (i.zero, i.size, i.bytes)) = some (some (.int .i64 0), 1, 8) := by kernel_rfl
theorem heap_keys (w : World) (h : Nat) (v : V) {H : HeapM} {ε : Int → Int} {F : List Nat} (hh : HeapIs w h H ε F) :
    Calls Try.prog 22 #[.pointer (some ⟨h, 0, none⟩), v.val] w (KeysPost (H.pairs v) w) := by
  cases g : H.of v with
  | none =>
    have HO := Lib.hid (hh.of_none g)
    have HE := Lib.hid (show H.pairs v = [] by simp [HeapM.pairs, g])
    clear hh g
    rw [HE.out]
    simp only [V.val] at HO ⊢
    go_enter Try.func22, Try.ntmps22
    go_wp2_with (go_at_call 45; refine (HO.out _ (by below_tac)).mono ?_; rintro e w1 ⟨rfl, hb1⟩)
    go_ret
    exact ⟨_, rfl, World.ownsRow_nil _ _ _ _, by simp [Value.ownBlock], by below_by hb1⟩
  | some o =>
    obtain ⟨ma, mr, b, d, rv, G, obs, r, O⟩ := hh.open g
    have HO := Lib.hid O.of
    have HK := Lib.hid O.cells
    have HE := Lib.hid (show H.pairs v = o.pairs by simp [HeapM.pairs, g])
    rw [HE.out]
    have HD := Lib.hid (fun W (hW : Below w.heap.size w W) => dict_keys W d o.pairs G (O.hdict.below hW))
    clear hh g O
    simp only [V.val] at HO ⊢
    go_enter Try.func22, Try.ntmps22
    go_wp2_with (go_at_call 45; refine (HO.out _ (by below_tac)).mono ?_; rintro e w1 ⟨rfl, hb1⟩; have hB : Below w.heap.size w w1 := (by below_by hb1); obtain ⟨k0, k1, k2, k3, k4⟩ := HK.out _ hB)
    go_wp2_with (go_at_call 49; refine (HD.out _ (by below_tac)).mono ?_; rintro e w2 ⟨sv, rfl, hs, hsn, hb2⟩)
    go_ret
    exact ⟨_, rfl, hs, fun b hb => Nat.le_trans hB.size (hsn b hb), Below.next hB hb2 hB.size⟩
theorem HeapIs.of_any {w : World} {h : Nat} {H : HeapM} {ε : Int → Int} {F : List Nat} (hh : HeapIs w h H ε F) (v : V) : ∃ p : Option Addr, p.isSome = (H.of v).isSome ∧ ∀ W, Below w.heap.size w W →
    Calls Try.prog 45 #[.pointer (some ⟨h, 0, none⟩), v.val] W fun e w' => e = .returned (.pointer p) ∧ Below W.heap.size W w' := by
  cases g : H.of v with
  | none => exact ⟨none, rfl, fun W hW => hh.of_none g W hW⟩
  | some o =>
    obtain ⟨ma, mr, b, d, rv, G, obs, r, O⟩ := hh.open g
    exact ⟨some ⟨b, 0, none⟩, rfl, fun W hW => O.of W hW⟩
/-- The numbers of what an object holds. -/
def HeapM.refNs (H : HeapM) (v : V) : List Int := match H.of v with | some o => (H.refs o).map (·.n) | none => []
def RefsPost (l : List Int) (w : World) (e : Ending) (w' : World) : Prop := ∃ sv, e = .returned sv ∧ slIs w' 2 1 intCell sv l ∧ (∀ b, sv.ownBlock = some b → w.heap.size ≤ b) ∧ Below w.heap.size w w'
def RefsRel (w : World) (H : HeapM) (o : ObjM) (sv : Value) (k : Nat) (out : Value) (wr : World) : Prop :=
  slIs wr 2 1 intCell out (((o.vals.take k).filter fun x => (H.of x).isSome).map (·.n)) ∧ (∀ b, out.ownBlock = some b → w.heap.size ≤ b) ∧ slIs wr 26 3 V.cells sv o.vals ∧ Below w.heap.size w wr
set_option maxHeartbeats 400000 in
theorem heap_refs (w : World) (h : Nat) (v : V) {H : HeapM} {ε : Int → Int} {F : List Nat} (hh : HeapIs w h H ε F) (hlen : (H.items v).length ≤ 4194304) :
    Calls Try.prog 30 #[.pointer (some ⟨h, 0, none⟩), v.val] w (RefsPost (H.refNs v) w) := by
  cases g : H.of v with
  | none =>
    have HO := Lib.hid (hh.of_none g)
    have HE := Lib.hid (show H.refNs v = [] by simp [HeapM.refNs, g])
    clear hh g hlen
    rw [HE.out]
    simp only [V.val] at HO ⊢
    go_enter Try.func30, Try.ntmps30
    go_wp2_with (go_at_call 45; refine (HO.out _ (by below_tac)).mono ?_; rintro e w1 ⟨rfl, hb1⟩)
    go_ret
    exact ⟨_, rfl, World.ownsRow_nil _ _ _ _, by simp [Value.ownBlock], by below_by hb1⟩
  | some o =>
    obtain ⟨ma, mr, b, d, rv, G, obs, r, O⟩ := hh.open g
    have HO := Lib.hid O.of
    have HE := Lib.hid (show H.refNs v = (H.refs o).map (·.n) by simp [HeapM.refNs, g])
    have hlen' : o.items.length ≤ 4194304 := by simpa [HeapM.items, g] using hlen
    have hL4 : o.pairs.length ≤ 4096 := by obtain ⟨m, rv, rows, tb, hd, hm, hr, hL, hn, hat, hlen, rfl, hnd, h4, h5⟩ := O.hdict; exact h4
    have hvl : o.vals.length ≤ 4198400 := by simp [ObjM.vals]; omega
    have HV := Lib.hid (fun W (hW : Below w.heap.size w W) => heap_values W b d rv G o (blockBelow O.ho hW) (O.hi.of_block fun g' hg' => hW.block g' (O.hi.lt g' hg')) (O.hdict.below hW) hlen')
    have HA := Lib.hid hh.of_any
    have HVL := Lib.hid hvl
    clear hh g O hlen hlen' hL4 hvl
    rw [HE.out]
    simp only [V.val] at HO ⊢
    go_enter Try.func30, Try.ntmps30
    go_wp2_with (go_at_call 45; refine (HO.out _ (by below_tac)).mono ?_; rintro e w1 ⟨rfl, hb1⟩; have hB : Below w.heap.size w w1 := (by below_by hb1))
    go_wp2_with fail
    refine (HV.out _ (by below_tac)).mono ?_
    rintro e w2 ⟨sv, rfl, hs, hsn, hb2⟩
    obtain ⟨sa, scap, rfl⟩ := hs.form
    have hB2 : Below w.heap.size w w2 := Below.next hB hb2 hB.size
    go_wp2
    go_loopw [6, 17] (fun out i wr => ∃ k : Nat, k ≤ o.vals.length ∧ i = .int .i64 k ∧ RefsRel w H o (.slice sa o.vals.length scap) k out wr) (fun _ i _ => o.vals.length - (intOf i).toNat)
    case atStart => exact ⟨0, by omega, rfl, World.ownsRow_nil _ _ _ _, by simp [Value.ownBlock], hs, hB2⟩
    case round =>
      obtain ⟨k, hk, rfl, d1, d2, d3, d4⟩ := hrel
      clear hs hsn hb2 hB2 hb1 hB
      by_cases hlt : k < o.vals.length
      · obtain ⟨x, hx⟩ : ∃ x, o.vals[k]? = some x := ⟨o.vals[k], by simp [hlt]⟩
        obtain ⟨gs, rfl⟩ : ∃ gs, sa = some ⟨gs, 0, none⟩ := by
          rcases d3.shape with ⟨h1, h2⟩ | ⟨gs, cap, h1, _⟩
          · rw [h2] at hlt; simp at hlt
          · cases h1; exact ⟨gs, rfl⟩
        have j0 := d3.cell V.cells_len rfl hx (j := 0) rfl
        rw [Nat.add_zero] at j0
        have j1 := d3.cell V.cells_len rfl hx (j := 1) rfl
        have j2 := d3.cell V.cells_len rfl hx (j := 2) rfl
        have gslt := d3.lt gs rfl
        have hil : (k : Int) < o.vals.length := by omega
        have hbig : (o.vals.length : Int) ≤ 9223372036854775807 := by have := HVL.out; omega
        obtain ⟨p, hp, hof⟩ := HA.out x
        have hof1 := hof (wr.alloc (.cells #[.int .i64 x.kind, .int .i64 x.n, .string x.s] 26)) (d4.alloc d4.size _)
        have HOF := Lib.hid hof1
        have hst : ((o.vals.take (k + 1)).filter fun x => (H.of x).isSome).map (·.n) = ((o.vals.take k).filter fun x => (H.of x).isSome).map (·.n) ++ (if (H.of x).isSome then [x.n] else []) := by
          rw [List.take_add_one, hx, List.filter_append, List.map_append]
          congr 1
          cases hb : (H.of x).isSome <;> simp [hb]
        have hll : ((((o.vals.take k).filter fun x => (H.of x).isSome).map (·.n))).length ≤ k := by
          rw [List.length_map]
          have := List.length_filter_le (fun x => (H.of x).isSome) (o.vals.take k)
          rw [List.length_take] at this; omega
        generalize hxs : ((o.vals.take k).filter fun x => (H.of x).isSome).map (·.n) = xs at *
        obtain ⟨oa, ocap, rfl⟩ := d1.form
        have HS := Lib.hid hst
        have HL := Lib.hid hll
        clear hof hof1 hst hx hxs hll
        simp only [V.val] at HOF
        cases p with
        | none =>
          rw [show (H.of x).isSome = false from hp.symm] at HS
          clear hp
          go_wp2_with (go_at_call 45; refine (HOF.out).mono ?_; rintro e w3 ⟨rfl, hb3⟩)
          have hB3 := belowThen hb3
          refine ⟨⟨k + 1, by omega, by go_num, ?_, d2, ?_, Below.next d4 hB3 d4.size⟩, by simp [intOf]; omega⟩
          · have := HS.out
            simp only [Bool.false_eq_true, if_false, List.append_nil] at this
            rw [this]; exact d1.of_block fun g hg => hB3.block g (d1.lt g hg)
          · exact d3.of_block fun g hg => hB3.block g (d3.lt g hg)
        | some a =>
          rw [show (H.of x).isSome = true from hp.symm] at HS
          clear hp
          obtain ⟨i0, hi, iz0, iz1, iz2⟩ := info_parts info_int64
          go_wp2_with fail
          refine (HOF.out).mono ?_
          rintro e w3 ⟨rfl, hb3⟩
          obtain ⟨p0, p1, p2, p3, p4, p5⟩ := valBlk (boxAt hb3)
          have hB3 := belowThen hb3
          have HD1 := Lib.hid (d1.of_block fun g hg => hB3.block g (d1.lt g hg))
          go_wp2_with (at_builtin; (refine wpList_append_own_at _ rfl _ _ 36 rfl 0 2 i0 _ 1 8 Try.underlying36 hi iz0 iz1 iz2 rfl (by decide) _ xs.length (xs.flatMap intCell) rfl (HD1.out.alloc _) ⟨w3.heap.size, 0, none⟩ 1 1 (intCell x.n) rfl rfl ?c1 ?c2 ?c3 ?c4 ?c5 ?_))
          case c1 =>
            intro j u hu
            have hadd : (⟨w3.heap.size, 0, none⟩ : Addr).add j = ⟨w3.heap.size, j, none⟩ := by unfold Addr.add; split <;> simp_all
            rw [hadd, cell_of_row _ _ _ _ _ _ (heapAllocNew w3 _)]
            simpa [intCell] using hu
          case c2 => intro u hu; simp [intCell] at hu; subst hu; rfl
          case c3 => have := HL.out; have := HVL.out; exact Nat.le_trans (show xs.length + 1 ≤ 4198401 by omega) (by decide)
          case c4 => have := HL.out; have := HVL.out; omega
          case c5 => exact Nat.zero_le _
          intro v' w4 hown' hgrow hnil hat
          obtain ⟨va', vcap', hv'⟩ := ownsRow_form hown'
          subst hv'
          have D1 := Lib.hid d1
          have D3 := Lib.hid d3
          have HG := Lib.hid hgrow
          have HW := Lib.hid hown'
          have HT := Lib.hid hat
          clear hgrow hnil hat hown' d1 d3
          go_wp2
          have d1 := D1.out
          have d3 := D3.out
          have hgrow := HG.out
          have hown' := HW.out
          have hsz := hgrow.size
          have hB3s := hB3.size
          have hd4 := d4.size
          simp only [World.size_alloc] at hsz
          refine ⟨⟨k + 1, by omega, by go_num, ?_, ?_, ?_, ?_⟩, by simp [intOf]; omega⟩
          · have := HS.out
            simp only [if_true] at this
            rw [this]
            refine ⟨flatMap_length _ _ intCell_len _, ?_⟩
            have := hown'.2
            simpa [intCell] using this
          · intro b' hb'
            rcases HT.out with h | h
            · exact d2 b' (by rw [← h]; exact hb')
            · rw [h] at hb'; cases hb'; (try simp only [World.size_alloc]); omega
          · refine d3.of_block fun g hg => ?_
            have hg1 := d3.lt g hg
            rw [hgrow.block g (by simp; omega) ?_, Below.heap_alloc _ _ _ (by omega), hB3.block g hg1]
            intro e
            obtain ⟨c1, hc1⟩ := d3.typed g hg
            obtain ⟨c2, hc2⟩ := d1.typed g e.symm
            rw [hc1] at hc2; cases hc2
          · exact ((Below.next d4 hB3 hd4).alloc (by omega) _).grown hgrow (by simp; omega) (fun k hk => d2 k hk)
      · have : k = o.vals.length := by omega
        subst this
        rw [List.take_length] at d1
        obtain ⟨oa, ocap, rfl⟩ := d1.form
        go_wp2
        go_ret
        exact ⟨_, rfl, d1, d2, d4⟩
end Go.Proofs.Ytoancpjlkhijiaa
