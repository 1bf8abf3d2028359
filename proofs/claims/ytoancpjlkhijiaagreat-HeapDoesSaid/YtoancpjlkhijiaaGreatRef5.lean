/- The reference's heap: drop. -/
import Derived.Test.YtoancpjlkhijiaaGreatRef4
namespace Go.Proofs.YtoancpjlkhijiaaGreat
set_option linter.unusedSimpArgs false
open Go.RowKit
set_option linter.unusedVariables false
/-- A slice that shows the pointers of these rows. -/
def SeesP (w : World) (sv : Value) (l : List RRow) : Prop :=
  ∃ a c, sv = .slice a l.length c ∧ l.length ≤ c ∧ c ≤ maxLen ∧ (l = [] ∨ ∃ g o, a = some ⟨g, o, none⟩ ∧ ∀ (i : Nat) (p : RRow), l[i]? = some p → w.cell? ⟨g, o + i, none⟩ = some (.pointer (some ⟨p.b, 0, none⟩)))
theorem slIs.seesP {w : World} {rv : Value} {l : List RRow} (h : slIs w 70 1 RRow.ptr rv l) : SeesP w rv l := by
  rcases h.shape with ⟨rfl, rfl⟩ | ⟨g, cap, rfl, h1, h2, h3⟩
  · exact ⟨none, 0, rfl, by simp, by simp, .inl rfl⟩
  · refine ⟨_, _, rfl, h1, h2, .inr ⟨g, 0, rfl, fun i p hp => ?_⟩⟩
    have := h.cell (f := RRow.ptr) (m := 1) (fun _ => rfl) rfl hp (j := 0) (u := .pointer (some ⟨p.b, 0, none⟩)) rfl
    simpa using this
theorem SeesP.part {w : World} {ra : Option Addr} {l : List RRow} {c : Nat} (h : SeesP w (.slice ra l.length c) l) {i j m : Nat} (hij : i ≤ j) (hjl : j ≤ l.length) (hjm : j ≤ m) (hmc : m ≤ c) :
    ∃ a, sliced ra i j m 1 = .slice a (j - i) (m - i) ∧ SeesP w (.slice a (j - i) (m - i)) ((l.drop i).take (j - i)) := by
  obtain ⟨a', c', he, h1, h2, h3⟩ := h
  obtain ⟨rfl, _, rfl⟩ := Value.slice.inj he
  refine ⟨_, rfl, ?_⟩
  have hlen : ((l.drop i).take (j - i)).length = j - i := by rw [List.length_take, List.length_drop]; omega
  refine ⟨_, _, by rw [hlen], by rw [hlen]; omega, by omega, ?_⟩
  by_cases he : j = i
  · left; subst he; simp
  · right
    rcases h3 with h3 | ⟨g, o, h3, h4⟩
    · rw [h3] at hjl; simp at hjl; omega
    · have hmi : ¬ m = i := by omega
      subst h3
      refine ⟨g, o + i, ?_, fun k v hv => ?_⟩
      · simp [hmi, Addr.add]
      · have hk : k < j - i := by have := (List.getElem?_eq_some_iff.1 hv).1; rwa [hlen] at this
        rw [List.getElem?_take, if_pos hk, List.getElem?_drop] at hv
        have := h4 _ _ hv
        rw [← Nat.add_assoc] at this
        exact this
section
variable {w W : World} {Rs : List Res}
theorem wpList_append_ptrs {ops : Array Oper} {rest : List Oper} {o : Oper} {a : Act} {Q : Exit → Act → World → Prop} (hg : o.guard = none) (s x : Operand)
    (ho : o.op = .call { callee := .builtin .append, args := #[s, x], argTypes := #[27, 27] }) {v : Value} {xs : List RRow} (S : Sep w Rs W) (j : Nat) (hj : Rs[j]? = some (ptrsR v xs)) (hs : a.eval s = v) (sv : Value) (l : List RRow) (hx : a.eval x = sv) (hsv : SeesP W sv l) (hlen : xs.length + l.length ≤ 8000000)
    (k : ∀ va vc w', Sep w (Rs.set j (ptrsR (.slice va (xs.length + l.length) vc) (xs ++ l))) w' → wpList Tryz.prog ops Q rest (a.put o.dst (.slice va (xs.length + l.length) vc)) w') :
    wpList Tryz.prog ops Q (o :: rest) a W := by
  obtain ⟨i0, hi, iz0, iz1, iz2⟩ := info_parts info_ptr
  have h := S.row j hj
  obtain ⟨p, cap, rfl, q1, q2, q3⟩ := hsv
  cases p with
  | none =>
    have hl : l = [] := by
      rcases q3 with h | ⟨g, o, h, _⟩
      · exact h
      · cases h
    subst hl
    obtain ⟨va, vc, rfl⟩ := h.form
    refine Lib.wpList_append_run W hg s x _ _ ho _ _ hs hx _ _ (run_append_nothing (P := Tryz.prog) W 27 o.type 70 i0 Tryz.underlying27 hi va xs.length vc cap h.caps.2.1) ?_
    have := k va vc W (by simpa [Sep.setSame hj] using S)
    simpa using this
  | some p =>
    have hcells : ∀ j u, (l.flatMap RRow.ptr)[j]? = some u → W.cell? (p.add j) = some u := by
      rcases q3 with h | ⟨g, o, h, hh⟩
      · subst h; intro j u hu; simp at hu
      · cases h
        intro j u hu
        have hadd : (⟨g, o, none⟩ : Addr).add j = ⟨g, o + j, none⟩ := by unfold Addr.add; split <;> simp_all
        have := flatMap_get RRow.ptr 1 (fun _ => rfl) l j 0 (by omega)
        rw [Nat.mul_one, Nat.add_zero] at this
        rw [this] at hu
        obtain ⟨q, hq, hu⟩ := Option.bind_eq_some_iff.1 hu
        simp [RRow.ptr] at hu
        subst hu
        rw [hadd]; exact hh j q hq
    refine wpList_append_own_at W hg s x 27 ho 0 70 i0 _ 1 8 Tryz.underlying27 hi iz0 iz1 iz2 rfl (by decide) v xs.length (xs.flatMap RRow.ptr) hs h p l.length cap (l.flatMap RRow.ptr) hx (flatMap_length RRow.ptr 1 (fun _ => rfl) l) hcells ?_ ?_ ?_ (Nat.zero_le _) ?_
    · intro u hu; obtain ⟨v, _, hv⟩ := List.mem_flatMap.1 hu; simp [RRow.ptr] at hv; subst hv; rfl
    · exact Nat.le_trans hlen (by decide)
    · omega
    · intro v' w' hown hgr hnil hat
      obtain ⟨va, vc, rfl⟩ := ownsRow_form hown
      refine k va vc w' (S.grown j hj ⟨flatMap_length RRow.ptr 1 (fun _ => rfl) _, ?_⟩ hgr hat)
      have := hown.2
      rw [List.flatMap_append, List.length_append]
      exact this
theorem Sep.madePtrs (S : Sep w Rs W) : Sep w (ptrsR (.slice (some ⟨W.heap.size, 0, none⟩) 0 0) [] :: Rs) (W.alloc (.cells #[] 70)) :=
  S.addRow (belowAlloc W _) (World.ownsRow_made W #[] 0 (Nat.zero_le _) (Nat.zero_le _) rfl) (by simp [Value.ownBlock])
variable {r : Nat} {H : HeapM}
theorem drop_split {l1 l2 : List RRow} {p : RRow} (hn : ((l1 ++ p :: l2).map (·.n)).Nodup) : delL ((l1 ++ p :: l2).map fun p => (p.n, p.o)) p.n = (l1 ++ l2).map fun p => (p.n, p.o) := by
  rw [List.map_append, List.map_cons] at hn
  have hd := List.nodup_append.1 hn
  have hd2 := List.nodup_cons.1 hd.2.1
  have f : ∀ l : List RRow, (∀ q ∈ l, q.n ≠ p.n) → (l.map fun p => (p.n, p.o)).filter (fun q => !decide (q.1 = p.n)) = l.map fun p => (p.n, p.o) := fun l hl => by
    refine List.filter_eq_self.2 fun q hq => ?_
    obtain ⟨q', hq', rfl⟩ := List.mem_map.1 hq
    simpa using hl q' hq'
  unfold delL
  rw [List.map_append, List.map_cons, List.filter_append, List.filter_cons_of_neg (by simp), f l1 fun q hq e => ?_, f l2 fun q hq e => ?_, List.map_append]
  · exact hd2.1 (List.mem_map.2 ⟨q, hq, e⟩)
  · exact hd.2.2 q.n (List.mem_map.2 ⟨q, hq, rfl⟩) p.n (by simp) e
set_option maxRecDepth 100000 in
set_option maxHeartbeats 3200000 in
theorem ref_drop (S : Sep w (refR r H :: Rs) W) {N : Nat} (G : H.Good N) (hN : N ≤ 4000000) (n : Int) (hn : okI n) :
    Calls Tryz.prog 69 #[.pointer (some ⟨r, 0, none⟩), .int .i64 n] W fun e W' => e = .returned (.bool (getL H.objs n).isSome) ∧ Sep w (refR r (H.drop n) :: Rs) W' := by
  obtain ⟨rows, hv, T, h4⟩ := S.openRef
  obtain ⟨F, ⟨rows0, sv0, g1, g2, g3, g4, -⟩, -⟩ := S.get 0 rfl
  clear rows0 sv0 g1 g2 g3 g4
  have HAT : ∀ p ∈ rows, p.At W := by
    obtain ⟨hw, F, f1, f2, f3⟩ := T
    obtain ⟨F1, F2, k1, k2, -⟩ := f1.unapp
    obtain ⟨F3, F4, -, ⟨F5, F6, -, m3, -⟩, -⟩ := k1
    exact (rowsF.1 m3).1
  have hrl : rows.length ≤ 4000000 := by
    have h1 : rows.length = H.objs.length := by rw [h4]; simp
    have := G.len; omega
  have hrli : (rows.length : Int) ≤ 4000000 := by omega
  have hnk := G.ok.nk
  obtain ⟨ha, hc, rfl⟩ := (T.row 1 rfl).form
  have c0 := cellAt (T.box 0 rfl) 0 (v := .slice ha rows.length hc) rfl
  have hptr := (T.row 1 rfl)
  have HH := Lib.hid (And.intro h4 (And.intro hrl hnk))
  have HC := Lib.hid (fun (k : Nat) (p : RRow) (hp : rows[k]? = some p) (W1 : World) (hb : Below W.heap.size W W1) => (show ∃ g, ha = some ⟨g, 0, none⟩ ∧ W1.cell? ⟨g, k, none⟩ = some (.pointer (some ⟨p.b, 0, none⟩)) ∧ W1.cell? ⟨p.b, 0, none⟩ = some (.int .i64 p.n) from by
    obtain ⟨g, rfl⟩ : ∃ g, ha = some ⟨g, 0, none⟩ := by
      rcases hptr.shape with ⟨h1, h5⟩ | ⟨g, cap, h1, _⟩
      · rw [h5] at hp; simp at hp
      · exact ⟨g, (Value.slice.inj h1).1⟩
    have := slIs.cell (f := RRow.ptr) (m := 1) (fun _ => rfl) hptr (g := g) rfl hp (j := 0) (show (RRow.ptr p)[0]? = some (.pointer (some ⟨p.b, 0, none⟩)) from rfl)
    exact ⟨g, rfl, cellBelow (by simpa using this) hb, cellBelow (cellAt (HAT p (List.mem_of_getElem? hp)).1 0 rfl) hb⟩))
  have HT := Lib.hid T
  have HS := Lib.hid S
  clear S T h4 hrl hnk hptr HAT
  go_enter Tryz.func69, Tryz.ntmps69
  go_wp2
  go_loopw [5] (fun i wr => ∃ k : Nat, k ≤ rows.length ∧ i = .int .i64 k ∧ (∀ p ∈ rows.take k, p.n ≠ n) ∧ wr = W) (fun i _ => rows.length - (intOf i).toNat)
  case atStart => exact ⟨0, by omega, rfl, by simp, rfl⟩
  case round =>
    obtain ⟨k, hk, rfl, hno, rfl⟩ := hrel
    by_cases hlt : k < rows.length
    · have hlti : (k : Int) < rows.length := by omega
      obtain ⟨p, hp⟩ : ∃ p, rows[k]? = some p := ⟨rows[k], by simp [hlt]⟩
      obtain ⟨g, rfl, e1, f1⟩ := HC.out k p hp wr (Below.refl _ _)
      by_cases hpn : p.n = n
      · have hbq : (p.n == n) = true := by simpa using hpn
        have hgn : (getL H.objs n).isSome = true := by
          rw [getL_of_mem HH.out.2.2 (k := n) (x := p.o) (by rw [HH.out.1, ← hpn]; exact List.mem_map.2 ⟨p, List.mem_of_getElem? hp, rfl⟩)]; rfl
        have hsp : rows = rows.take k ++ p :: rows.drop (k + 1) := by
          obtain ⟨h1, e⟩ := List.getElem?_eq_some_iff.1 hp
          rw [← e]; simp
        have hdr : (H.drop n).objs = (rows.take k ++ rows.drop (k + 1)).map fun p => (p.n, p.o) := by
          show delL H.objs n = _
          have h5 := HH.out.2.2
          rw [HH.out.1, List.map_map] at h5
          have h6 : ((rows.take k ++ p :: rows.drop (k + 1)).map (·.n)).Nodup := by rw [← hsp]; exact h5
          rw [HH.out.1, ← hpn]
          conv => lhs; rw [hsp]
          exact drop_split h6
        have T1 := HT.out.madePtrs
        have hrow : slIs wr 70 1 RRow.ptr (.slice (some ⟨g, 0, none⟩) rows.length hc) rows := HT.out.row 1 rfl
        have hcap := hrow.caps
        have hu : Tryz.prog.underlying 27 = some (.slice (Tryz.prog.elem 27)) := by kernel_rfl
        have hsz : ∀ W, (sizeOf (Tryz.prog.elem 27)).run Tryz.prog W = .ok 1 W := fun W => by kernel_rfl
        obtain ⟨a2, ha2, -⟩ := hrow.seesP.part (Nat.zero_le k) hk (Nat.le_trans hk hcap.2.1) (Nat.le_refl _)
        obtain ⟨a3, ha3, -⟩ := hrow.seesP.part (show k + 1 ≤ rows.length by omega) (Nat.le_refl _) hcap.2.1 (Nat.le_refl _)
        have s2 : ∀ W, (Instr.slice 27 (.slice (some ⟨g, 0, none⟩) rows.length hc) none (some (.int .i64 k)) none).run Tryz.prog W = .ok (.slice a2 (rows.take k).length hc) W := fun W => by
          rw [run_slice_h W _ _ _ _ hu _ _ (by omega) (by omega), hsz]
          rw [show (rows.take k).length = k by rw [List.length_take]; omega]
          exact congrArg (fun x => Result.ok x W) ha2
        have s3 : ∀ W, (Instr.slice 27 (.slice (some ⟨g, 0, none⟩) rows.length hc) (some (.int .i64 ((k : Int) + 1))) none none).run Tryz.prog W = .ok (.slice a3 (rows.drop (k + 1)).length (hc - (k + 1))) W := fun W => by
          rw [show (k : Int) + 1 = ((k + 1 : Nat) : Int) by omega]
          rw [run_slice_l W _ _ _ _ hu _ _ (by omega) (by omega), hsz, show (rows.drop (k + 1)).length = rows.length - (k + 1) by simp]
          exact congrArg (fun x => Result.ok x W) ha3
        have SE2 : Hid (∀ W1, slIs W1 70 1 RRow.ptr (.slice (some ⟨g, 0, none⟩) rows.length hc) rows → SeesP W1 (.slice a2 (rows.take k).length hc) (rows.take k)) := Lib.hid fun W1 h => by
          obtain ⟨a', ha', se⟩ := h.seesP.part (Nat.zero_le k) hk (Nat.le_trans hk hcap.2.1) (Nat.le_refl _)
          rw [ha2] at ha'
          cases ha'
          have e : (rows.take k).length = k := by rw [List.length_take]; omega
          rw [e]; simpa using se
        have SE3 : Hid (∀ W1, slIs W1 70 1 RRow.ptr (.slice (some ⟨g, 0, none⟩) rows.length hc) rows → SeesP W1 (.slice a3 (rows.drop (k + 1)).length (hc - (k + 1))) (rows.drop (k + 1))) := Lib.hid fun W1 h => by
          obtain ⟨a', ha', se⟩ := h.seesP.part (show k + 1 ≤ rows.length by omega) (Nat.le_refl _) hcap.2.1 (Nat.le_refl _)
          rw [ha3] at ha'
          cases ha'
          have e : (rows.drop (k + 1)).length = rows.length - (k + 1) := by simp
          rw [e]
          rw [List.take_of_length_le (by simp)] at se
          exact se
        have hlens : (rows.take k).length ≤ 4000000 ∧ (rows.drop (k + 1)).length ≤ 4000000 := by have := HH.out.2.1; simp; omega
        have hk1 : (k : Int) + 1 ≤ 4000001 := by omega
        have hk2 : (k : Int) + 1 ≤ rows.length := by omega
        have hk3 : (k : Int) ≤ rows.length := by omega
        have HX := Lib.hid (And.intro hgn (And.intro hsp (And.intro hdr hlens)))
        obtain ⟨l1, hl1⟩ : ∃ l, rows.take k = l := ⟨_, rfl⟩
        obtain ⟨l2, hl2⟩ : ∃ l, rows.drop (k + 1) = l := ⟨_, rfl⟩
        rw [hl1] at s2 SE2 HX
        rw [hl2] at s3 SE3 HX
        have b0 := cellAt (T1.box 1 rfl) 0 (v := .slice (some ⟨g, 0, none⟩) rows.length hc) rfl
        clear hno hlt hp hpn hgn hsp hdr hrow hcap hu hsz ha2 ha3 hlens hl1 hl2
        go_wp2_with (at_builtin; refine wpList_append_ptrs rfl _ _ rfl T1 0 rfl rfl _ _ rfl (SE2.out _ (T1.row 2 rfl)) (by have := HX.out.2.2.2; simp; omega) ?_)
        intro va vc w2 T2
        have b0 := cellAt (T2.box 1 rfl) 0 (v := .slice (some ⟨g, 0, none⟩) rows.length hc) rfl
        have hbw := World.block_lt_of_cell? _ _ b0
        clear T1
        go_wp2_with (at_builtin; refine wpList_append_ptrs rfl _ _ rfl T2 0 rfl rfl _ _ rfl (SE3.out _ (T2.row 2 rfl)) (by have := HX.out.2.2.2; simp; omega) ?_)
        intro va2 vc2 w3 T3
        have d0 := cellAt (T3.box 1 rfl) 0 (v := .slice (some ⟨g, 0, none⟩) rows.length hc) rfl
        have z0 := frozenAt (T3.box 1 rfl) 0
        have hbw3 := World.block_lt_of_cell? _ _ d0
        have hll : ([] ++ l1).length + l2.length = (l1 ++ l2).length := by simp
        have T4 := T3.setBox (cs := #[.slice (some ⟨g, 0, none⟩) rows.length hc, .int .i64 H.last]) (t := 29) 1 rfl 0 (.slice va2 (l1.length + l2.length) vc2)
        have FIN : Hid (Sep w (refR r (H.drop n) :: Rs) (w3.setCell ⟨r, 0, none⟩ (.slice va2 (l1.length + l2.length) vc2))) := Lib.hid (by
          refine Sep.shutRef (rows := l1 ++ l2) (sv := .slice va2 (l1.length + l2.length) vc2) ?_ HX.out.2.2.1
          have U : Sep w (ptrsR (.slice va2 (l1.length + l2.length) vc2) (l1 ++ l2) :: boxR r (rhead (.slice va2 (l1.length + l2.length) vc2) H.last) :: ptrsR (.slice (some ⟨g, 0, none⟩) rows.length hc) rows :: (rows.flatMap rowRes ++ Rs)) (w3.setCell ⟨r, 0, none⟩ (.slice va2 (l1.length + l2.length) vc2)) := by
            first | exact T4 | simpa using T4
          have U2 := U.swap
          refine U2.sub ?_
          show (boxR r (rhead (.slice va2 (l1.length + l2.length) vc2) (H.drop n).last) :: ptrsR (.slice va2 (l1.length + l2.length) vc2) (l1 ++ l2) :: ((l1 ++ l2).flatMap rowRes ++ Rs)).Sublist _
          refine .cons_cons _ (.cons_cons _ (.cons _ (List.Sublist.append ?_ (List.Sublist.refl _))))
          rw [HX.out.2.1, List.flatMap_append, List.flatMap_append, List.flatMap_cons]
          exact List.Sublist.append (List.Sublist.refl _) (List.sublist_append_right _ _))
        clear T2 T3 T4 b0 hbw
        go_wp2
        go_ret
        rw [HX.out.1]
        exact ⟨rfl, FIN.out⟩
      · have hbq : (p.n == n) = false := by simpa using hpn
        have hno2 : ∀ q ∈ rows.take (k + 1), q.n ≠ n := fun q hq => by
          rw [List.take_add_one, hp] at hq
          rcases List.mem_append.1 hq with h | h
          · exact hno q h
          · simp at h; subst h; exact hpn
        have HNO := Lib.hid hno2
        have HLT := Lib.hid hlt
        clear hno hno2 hlt hp hpn
        go_wp2
        exact ⟨⟨k + 1, by have := HLT.out; omega, by go_num, HNO.out, by first | trivial | rfl⟩, by have := HLT.out; simp [intOf]; omega⟩
    · have hlti : ¬ (k : Int) < rows.length := by omega
      have hgn : getL H.objs n = none := by
        rw [getL_none]
        intro p hp
        rw [HH.out.1] at hp
        obtain ⟨q, hq, rfl⟩ := List.mem_map.1 hp
        exact hno q (by rw [List.take_of_length_le (by omega)]; exact hq)
      have hdr : H.drop n = H := by
        have h1 : (H.drop n).objs = H.objs := by
          show delL H.objs n = _
          exact List.filter_eq_self.2 fun p hp => by have := getL_none.1 hgn p hp; simpa using this
        have h2 : ∀ H : HeapM, H = ⟨H.objs, H.last⟩ := fun H => rfl
        rw [h2 (H.drop n), h1]; rfl
      have HF := Lib.hid (And.intro hgn hdr)
      clear hno hlt hgn hdr
      go_wp2
      go_ret
      rw [HF.out.1, HF.out.2]
      exact ⟨rfl, HS.out⟩
end
end Go.Proofs.YtoancpjlkhijiaaGreat
