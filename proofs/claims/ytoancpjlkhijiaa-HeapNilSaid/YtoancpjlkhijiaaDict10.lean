/- Dicts: All, as an iterator. -/
import Derived.Test.YtoancpjlkhijiaaDict9
import Derived.Test.YtoancpjlkhijiaaRange
namespace Go.Proofs.Ytoancpjlkhijiaa
open Go.RowKit
set_option linter.unusedVariables false
attribute [local go_sem] Oper.semAt_some
def StB (W W' : World) : Prop := Below W.heap.size W W'
/-- No row of a dict is written. -/
def KpR (W W' : World) : Prop := W.heap.size ≤ W'.heap.size ∧ ∀ (b : Nat) (cs : Array Value) (fr : Nat × Nat), W.heap[b]? = some (Obj.cells cs 124 fr) → W'.heap[b]? = some (Obj.cells cs 124 fr)
def keyK (L : List (V × V)) (k : Nat) : V := ((L[k]?).map (·.1)).getD V.zero
def valK (L : List (V × V)) (k : Nat) : V := ((L[k]?).map (·.2)).getD V.zero
def pairEnc (L : List (V × V)) (k : Nat) : Array Value := #[(keyK L k).val, (valK L k).val]
def EndI (J Jx : Nat → World → Prop) (n : Nat) (e : Ending) (W' : World) : Prop := (∃ v, e = .returned v) ∧ (J n W' ∨ ∃ k, k ≤ n ∧ Jx k W')
def RelI (v : Value) (rows : List Row) (J : Nat → World → Prop) (i : Nat) (wr : World) : Prop := J (liveRows (rows.take i)).length wr ∧ slIs wr 124 7 rowCells v rows
theorem slIs.pairs {w : World} {v : Value} {rows : List Row} (h : slIs w 124 7 rowCells v rows) : ∀ g, v.ownBlock = some g → ∃ cs, w.heap[g]? = some (.cells cs 124) := by
  intro g hg
  rcases h.2 with ⟨rfl, h2⟩ | ⟨g', cap, cur, rfl, h0, hb, h1, h2, h3, h4⟩
  · cases hg
  · cases hg; exact ⟨_, hb⟩
theorem slIs.keptR {w w' : World} {v : Value} {rows : List Row} (h : slIs w 124 7 rowCells v rows) (k : KpR w w') : slIs w' 124 7 rowCells v rows :=
  h.of_block fun g hg => by obtain ⟨cs, hc⟩ := h.pairs g hg; rw [hc]; exact k.2 g cs _ hc
theorem liveRows_take_succ {rows : List Row} {i : Nat} {p : Row} (h : rows[i]? = some p) : liveRows (rows.take (i + 1)) = liveRows (rows.take i) ++ (if p.gone then [] else [(p.k, p.x)]) := by
  unfold liveRows
  rw [List.take_add_one, h, List.filterMap_append]
  congr 1
  cases hg : p.gone <;> simp [Row.live, hg]
theorem liveRows_get {rows : List Row} {i : Nat} {p : Row} (h : rows[i]? = some p) (hg : p.gone = false) : (liveRows rows)[(liveRows (rows.take i)).length]? = some (p.k, p.x) := by
  have hl : i < rows.length := (List.getElem?_eq_some_iff.1 h).1
  have e : rows = rows.take i ++ (p :: rows.drop (i + 1)) := by
    have hp : rows[i] = p := (List.getElem?_eq_some_iff.1 h).2
    rw [← hp, ← List.drop_eq_getElem_cons hl, List.take_append_drop]
  have e2 : liveRows rows = liveRows (rows.take i) ++ ((p.k, p.x) :: liveRows (rows.drop (i + 1))) := by
    conv => lhs; rw [e]
    unfold liveRows
    rw [List.filterMap_append, List.filterMap_cons]
    simp [Row.live, hg]
  rw [e2, List.getElem?_append_right (Nat.le_refl _)]; simp
theorem clone_rows_nil (w : World) : Calls Try.prog 93 #[.slice none 0 0] w fun e w' => e = .returned (.slice none 0 0) ∧ w = w' := by
  have heq2 : ∀ W, (binOp .eql 120 (.slice none 0 0) (.slice none 0 0)).run Try.prog W = .ok (.bool true) W := fun W => Lib.run_eql_slice_nil W _ _ _ _ _ _ _ Try.underlying120
  go_enter Try.func93, Try.ntmps93
  go_wp2
  go_returns
  exact ⟨rfl, rfl⟩
set_option maxHeartbeats 400000 in
theorem dict_iter (w1 : World) (d c1 : Nat) (L : List (V × V)) (F : List Nat) (h : DictIs w1 d L F) (hbox : w1.cell? ⟨c1, 0, none⟩ = some (.pointer (some ⟨d, 0, none⟩))) :
    IterAt Try.prog 92 #[.pointer (some ⟨c1, 0, none⟩)] (pairEnc L) L.length StB KpR w1 := by
  intro l J Jx hJ hJx hY h0
  show Calls _ _ _ _ (EndI J Jx L.length)
  obtain ⟨m, rv, rows, tb, hd, hm, hr, hL, hn, hat, hlen, hF, hnd, h4, h5⟩ := h
  obtain ⟨ra, rcap, rfl⟩ := hr.form
  have q1 := cellAt hd 1 (v := .slice ra rows.length rcap) rfl
  have HCL : Hid (∀ W, Below w1.heap.size w1 W → Calls Try.prog 93 #[.slice ra rows.length rcap] W fun e w' => ∃ v, e = .returned v ∧ slIs w' 124 7 rowCells v rows ∧ Below W.heap.size W w') := by
    intro W hW
    rcases hr.shape with ⟨h1, h2⟩ | ⟨g, cap, h1, _⟩
    · subst h2; simp only [List.length_nil] at h1; cases h1
      exact (clone_rows_nil W).mono fun e w' ⟨h1, h2⟩ => ⟨_, h1, World.ownsRow_nil _ _ _ _, h2 ▸ Below.refl _ _⟩
    · cases h1
      exact (clone_rows W g rcap rows (hr.of_block fun g' hg' => hW.block _ (hr.lt g' hg')) (by omega)).mono fun e w' ⟨v, h1, h2, _, h3⟩ => ⟨v, h1, h2, h3⟩
  have HL := Lib.hid hL
  clear hd hm hr hat hn hlen hF hnd h4 hL
  refine (callsIn_wide (n := 8)).1 ?_
  refine callsIn_of_wp Try.func92 rfl trivial ?_ rfl
  simp only [Try.ntmps92, List.size_toArray, List.length_cons, List.length_nil, Nat.reduceAdd, Nat.reduceSub, Array.replicate_succ, Array.replicate_zero, List.push_toArray, List.append_toArray, List.nil_append, List.cons_append]
  gi_wp2_with fail
  refine ⟨trivial, (callsIn_wide.2 (HCL.out _ (Below.refl _ _))).mono ?_⟩
  rintro e w' ⟨v, rfl, hs, hb⟩
  obtain ⟨va, vcap, rfl⟩ := hs.form
  gi_wp2_with fail
  have hJ0 := hJ 0 w1 w' h0 hb
  gi_loopw [11] (fun i wr => ∃ k : Nat, k ≤ rows.length ∧ i = .int .i64 k ∧ RelI (.slice va rows.length vcap) rows J k wr) (fun i _ => rows.length - (intOf i).toNat)
  case atStart => exact ⟨0, by omega, rfl, hJ0, hs⟩
  case round =>
    obtain ⟨i, hi, rfl, hJr, hsr⟩ := hrel
    clear hs hb q1 hbox hJ0 h0
    by_cases hlt : i < rows.length
    · obtain ⟨p, hp⟩ : ∃ p, rows[i]? = some p := ⟨rows[i], by simp [hlt]⟩
      obtain ⟨g, rfl⟩ : ∃ g, va = some ⟨g, 0, none⟩ := by
        rcases hsr.shape with ⟨h1, h2⟩ | ⟨g, cap, h1, _⟩
        · rw [h2] at hlt; simp at hlt
        · cases h1; exact ⟨g, rfl⟩
      obtain ⟨d0, d1, d2, d3, d4, d5, d6⟩ := rowFacts hsr hp
      have hil : (i : Int) < rows.length := by omega
      have hbig : (rows.length : Int) ≤ 8201 := by omega
      have hsucc := liveRows_take_succ hp
      cases hg : p.gone with
      | true =>
        rw [hg] at d6
        have HS := Lib.hid (show liveRows (rows.take (i + 1)) = liveRows (rows.take i) by rw [hsucc, hg]; simp)
        clear hp hsucc hg hY
        gi_wp2
        all_goals (refine ⟨fun _ h => (by cases h), ?_⟩)
        all_goals gi_wp2
        all_goals (refine ⟨⟨i + 1, by omega, by go_num, ?_, hsr.alloc _⟩, by simp [intOf]; omega⟩)
        all_goals (rw [HS.out]; exact hJ _ _ _ hJr ((Below.refl _ _).alloc (Nat.le_refl _) _))
      | false =>
        rw [hg] at d6
        have HS := Lib.hid (show (liveRows (rows.take (i + 1))).length = (liveRows (rows.take i)).length + 1 by rw [hsucc, hg]; simp)
        have hget := liveRows_get hp hg
        rw [HL.out] at hget
        have hkl : (liveRows (rows.take i)).length < L.length := (List.getElem?_eq_some_iff.1 hget).1
        have henc : pairEnc L (liveRows (rows.take i)).length = #[p.k.val, p.x.val] := by simp [pairEnc, keyK, valK, hget]
        have HY := Lib.hid (fun W hJ => henc ▸ hY (liveRows (rows.take i)).length W hkl hJ)
        have hb1 : Below wr.heap.size wr (wr.alloc (.cells #[.int .i64 p.k.kind, .int .i64 p.k.n, .string p.k.s, .int .i64 p.x.kind, .int .i64 p.x.n, .string p.x.s, .bool false] 124)) := (Below.refl _ _).alloc (Nat.le_refl _) _
        obtain ⟨fn, tmps, assign, body, hy, hR⟩ := HY.out (wr.alloc (.cells #[.int .i64 p.k.kind, .int .i64 p.k.n, .string p.k.s, .int .i64 p.x.kind, .int .i64 p.x.n, .string p.x.s, .bool false] 124)) (hJ _ wr _ hJr hb1)
        have hsr1 := Lib.hid (hsr.alloc (.cells #[.int .i64 p.k.kind, .int .i64 p.k.n, .string p.k.s, .int .i64 p.x.kind, .int .i64 p.x.n, .string p.x.s, .bool false] 124))
        clear hp hsucc hg hY henc hget
        simp only [V.val] at hy
        gi_wp2_with fail
        refine hR.mono ?_
        rintro e W' (⟨rfl, hJ2, hk2⟩ | ⟨rfl, hJx2⟩)
        · have hs2 := Lib.hid (hsr1.out.keptR hk2)
          clear hsr hy hR d0 d1 d2 d3 d4 d5 d6 hb1
          gi_wp2_with fail
          refine ⟨⟨i + 1, by omega, by go_num, ?_, hs2.out⟩, by simp [intOf]; omega⟩
          rw [HS.out]; exact hJ2
        · clear hsr hy hR d0 d1 d2 d3 d4 d5 d6 hb1
          gi_wp2
          refine bodyPost_ret (results_none rfl _ _ _) rfl ?_
          exact ⟨⟨_, rfl⟩, .inr ⟨_, hkl, hJx2⟩⟩
    · have : i = rows.length := by omega
      subst this
      rw [List.take_length, HL.out] at hJr
      clear hY
      gi_wp2
      refine bodyPost_ret (results_none rfl _ _ _) rfl ?_
      exact ⟨⟨_, rfl⟩, .inl hJr⟩
end Go.Proofs.Ytoancpjlkhijiaa
