/- Dicts: Put, Del. -/
import Derived.Test.YtoancpjlkhijiaaDict3
namespace Go.Proofs.Ytoancpjlkhijiaa
open Go.RowKit
set_option linter.unusedVariables false
theorem live_set {rows : List Row} (hn : ((liveRows rows).map (·.1)).Nodup) {i : Nat} {k x : V} (h : rows[i]? = some ⟨k, x, false⟩) (x' : V) :
    liveRows (rows.set i ⟨k, x', false⟩) = (liveRows rows).map (fun p => if p.1 = k then (k, x') else p) := by
  induction rows generalizing i with
  | nil => simp at h
  | cons p r ih =>
    have cons_eq : ∀ q : Row, ∀ l, liveRows (q :: l) = (if q.gone then [] else [(q.k, q.x)]) ++ liveRows l := fun q l => by
      cases hg : q.gone <;> simp [liveRows, Row.live, hg]
    rw [cons_eq] at hn
    cases i with
    | zero =>
      simp at h; subst h
      simp only [List.set_cons_zero, cons_eq]
      simp only [Bool.false_eq_true, if_false, List.cons_append, List.nil_append, List.map_cons, List.nodup_cons, if_true] at hn ⊢
      congr 1
      conv => lhs; rw [← List.map_id' (liveRows r)]
      exact List.map_congr_left fun q hq => (if_neg fun e => hn.1 (List.mem_map.2 ⟨q, hq, e⟩)).symm
    | succ i =>
      simp at h
      simp only [List.set_cons_succ, cons_eq, List.map_append]
      have hn2 : ((liveRows r).map (·.1)).Nodup := by
        rw [List.map_append] at hn; exact (List.nodup_append.1 hn).2.1
      rw [ih hn2 h]
      congr 1
      cases hg : p.gone with
      | true => simp
      | false =>
        have hmem : (k, x) ∈ liveRows r := List.mem_filterMap.2 ⟨_, List.mem_of_getElem? h, by simp [Row.live]⟩
        have : p.k ≠ k := fun e => by
          rw [hg] at hn
          simp only [Bool.false_eq_true, if_false, List.cons_append, List.nil_append, List.map_cons, List.nodup_cons] at hn
          exact hn.1 (List.mem_map.2 ⟨_, hmem, e.symm⟩)
        simp [this]
theorem live_append (rows : List Row) (k x : V) : liveRows (rows ++ [⟨k, x, false⟩]) = liveRows rows ++ [(k, x)] := by simp [liveRows, Row.live]
theorem info_pair : (Try.prog.info? 124).map (fun i => (i.zero, i.size, i.bytes)) = some (some (.agg #[.int .i64 0, .int .i64 0, .string ⟨#[]⟩, .int .i64 0, .int .i64 0, .string ⟨#[]⟩, .bool false]), 7, 72) := by kernel_rfl
/-- Where a key of a dict is found. -/
theorem dict_look {rows : List Row} {L : List (V × V)} {tb : List (V × Nat)} (hL : liveRows rows = L) (hn : (L.map (·.1)).Nodup) (hat : ∀ k i, getL tb k = some i ↔ ∃ x, rows[i]? = some ⟨k, x, false⟩) (k : V) :
    (getL tb k = none ∧ getL L k = none) ∨ ∃ i x, getL tb k = some i ∧ getL L k = some x ∧ rows[i]? = some ⟨k, x, false⟩ := by
  cases hg : getL tb k with
  | some i =>
    obtain ⟨x, hx⟩ := (hat k i).1 hg
    exact .inr ⟨i, x, rfl, getL_of_mem hn (by rw [← hL]; exact List.mem_filterMap.2 ⟨_, List.mem_of_getElem? hx, Row.live_some.2 rfl⟩), hx⟩
  | none =>
    refine .inl ⟨rfl, ?_⟩
    cases h' : getL L k with
    | none => rfl
    | some x =>
      obtain ⟨r, hr1, hr2⟩ := List.mem_filterMap.1 (hL ▸ getL_mem h')
      obtain ⟨i, hi⟩ := List.getElem?_of_mem hr1
      have := (hat k i).2 ⟨x, by rw [hi]; exact congrArg some (Row.live_some.1 hr2)⟩
      rw [hg] at this; cases this
theorem dict_put_there (w : World) (d : Nat) (L : List (V × V)) (F : List Nat) (k x y : V) (h : DictIs w d L F) (hy : getL L k = some y) : Calls Try.prog 75 #[.pointer (some ⟨d, 0, none⟩), k.val, x.val] w fun e w' =>
    e = .returned (.bool true) ∧ DictIs w' d (putL L k x) F ∧ Outside F w w' := by
  obtain ⟨m, rv, rows, tb, hd, hm, hr, hL, hn, hat, hlen, rfl, hnd, h4, h5⟩ := h
  have c0 := cellAt hd 0 (v := .map (some m)) rfl
  have c1 := cellAt hd 1 (v := rv) rfl
  have dlt := blockLt hd
  have mlt := hm.lt
  obtain ⟨kl, hkl⟩ := keyOfV k
  have hz : ∀ W, (zeroValue 3).run Try.prog W = .ok (.int .i64 0) W := fun W => Try.zeroValue3 W
  simp only [V.val]
  rcases dict_look hL hn hat k with ⟨g1, g2⟩ | ⟨i, y', g1, g2, g3⟩
  · rw [hy] at g2; cases g2
  · have hlk : ∀ o o', (Instr.lookup 119 (.map (some m)) (.agg #[.int .i64 k.kind, .int .i64 k.n, .string k.s]) true).run Try.prog ((w.alloc o).alloc o').drew = .ok (.tuple #[.int .i64 i, .bool true]) ((w.alloc o).alloc o').drew := fun o o' => by
      have := (((hm.alloc o).alloc o').drewN 1).look ekV_inj keyV Try.underlying119 (hz _) hkl true
      rw [g1] at this; exact this
    obtain ⟨g, cap, rfl, hcap, hmx, hglt⟩ : ∃ g cap, rv = .slice (some ⟨g, 0, none⟩) rows.length cap ∧ rows.length ≤ cap ∧ cap ≤ maxLen ∧ g < w.heap.size := by
      rcases hr.shape with ⟨_, rfl⟩ | h
      · simp at g3
      · exact h
    have hil : i < rows.length := (List.getElem?_eq_some_iff.1 g3).1
    obtain ⟨d0, d1, d2, d3, d4, d5, d6⟩ := rowFacts hr g3
    have hfr : ∀ j, w.frozen? ⟨g, j, none⟩ = false := fun j => hr.frozen rfl j
    have goal : ∀ o o', DictIs ((((((w.setCell ⟨g, i * 7 + 3, none⟩ (.int .i64 x.kind)).setCell ⟨g, i * 7 + 3 + 1, none⟩ (.int .i64 x.n)).setCell ⟨g, i * 7 + 3 + 2, none⟩ (.string x.s)).alloc o).alloc o').drew.drew) d (putL L k x) (d :: m :: Option.toList (Value.ownBlock (.slice (some ⟨g, 0, none⟩) rows.length cap))) ∧
        Outside (d :: m :: Option.toList (Value.ownBlock (.slice (some ⟨g, 0, none⟩) rows.length cap))) w ((((((w.setCell ⟨g, i * 7 + 3, none⟩ (.int .i64 x.kind)).setCell ⟨g, i * 7 + 3 + 1, none⟩ (.int .i64 x.n)).setCell ⟨g, i * 7 + 3 + 2, none⟩ (.string x.s)).alloc o).alloc o').drew.drew) := by
      intro o o'
      have hdg : d ≠ g := by intro e; subst e; simp [Value.ownBlock] at hnd
      have hmg : m ≠ g := by intro e; subst e; simp [Value.ownBlock] at hnd
      have hp := hr.putPart rowCells_len g3 (o := 3) (a' := ⟨k, x, false⟩) (vs := [.int .i64 x.kind, .int .i64 x.n, .string x.s]) rfl (by simp)
      have hs3 : w.setCells g (i * 7 + 3) [.int .i64 x.kind, .int .i64 x.n, .string x.s] = ((w.setCell ⟨g, i * 7 + 3, none⟩ (.int .i64 x.kind)).setCell ⟨g, i * 7 + 3 + 1, none⟩ (.int .i64 x.n)).setCell ⟨g, i * 7 + 3 + 2, none⟩ (.string x.s) := rfl
      rw [← hs3]
      have ho : Outside [g] w (w.setCells g (i * 7 + 3) [.int .i64 x.kind, .int .i64 x.n, .string x.s]) := Outside.setCells (.inl (by simp)) _ _ (Outside.refl _ _)
      generalize w.setCells g (i * 7 + 3) [.int .i64 x.kind, .int .i64 x.n, .string x.s] = W3 at hp ho
      have hD : DictIs W3 d (putL L k x) (d :: m :: Option.toList (Value.ownBlock (.slice (some ⟨g, 0, none⟩) rows.length cap))) := by
        refine ⟨m, .slice (some ⟨g, 0, none⟩) rows.length cap, rows.set i ⟨k, x, false⟩, tb, (ho.block d dlt (by simpa using hdg)).trans hd, hm.of_block (ho.block m mlt (by simpa using hmg)), hp, ?_, ?_, ?_, ?_, rfl, hnd, ?_, by rw [List.length_set]; exact h5⟩
        · rw [live_set (by rw [hL]; exact hn) g3, hL, putL_some x g2]
        · exact nodup_putL hn k x
        · intro k' i'
          rw [hat]
          by_cases e : i = i'
          · subst e
            rw [List.getElem?_set_self hil, g3]
            constructor
            · rintro ⟨z, hz⟩; cases hz; exact ⟨x, rfl⟩
            · rintro ⟨z, hz⟩; cases hz; exact ⟨y', rfl⟩
          · rw [List.getElem?_set_ne e]
        · rw [putL_length x g2]; exact hlen
        · rw [putL_length x g2]; exact h4
      exact ⟨hD.below (by below_tac), (((ho.mono (by simp [Value.ownBlock])).alloc o).alloc o').drew.drew⟩
    have HG := Lib.hid goal
    clear goal hd hm hr hL hn hat hlen hy g1 g2 g3 hz hkl hnd d0 d1 d2 d6
    go_enter Try.func75, Try.ntmps75
    go_wp2
    go_region
    go_wp2
    go_region
    go_wp2
    go_returns
    refine ⟨rfl, ?_⟩
    exact HG.out _ _
end Go.Proofs.Ytoancpjlkhijiaa
