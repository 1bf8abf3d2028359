/- Dicts: what lies in memory; New, Len, Key. -/
import Derived.Test.YtoancpjlkhijiaaVal
import Derived.Carry
import Derived.Handy
namespace Go.Proofs.Ytoancpjlkhijiaa
open Go.RowKit
set_option linter.unusedVariables false
def exN (i : Nat) : Value := .int .i64 i
/-- A row: a key, a value, whether it was taken out. -/
structure Row where
  k : V
  x : V
  gone : Bool
def rowCells (p : Row) : List Value := [.int .i64 p.k.kind, .int .i64 p.k.n, .string p.k.s, .int .i64 p.x.kind, .int .i64 p.x.n, .string p.x.s, .bool p.gone]
theorem rowCells_len (a : Row) : (rowCells a).length = 7 := rfl
def Row.live (p : Row) : Option (V × V) := if p.gone then none else some (p.k, p.x)
def liveRows (rows : List Row) : List (V × V) := rows.filterMap Row.live
theorem Row.live_some {p : Row} {k x : V} : p.live = some (k, x) ↔ p = ⟨k, x, false⟩ := by
  cases p with | mk a b g => cases g <;> simp [Row.live]
/-- At block d lies a dict that has the pairs L, in order; F are its blocks. -/
def DictIs (w : World) (d : Nat) (L : List (V × V)) (F : List Nat) : Prop :=
  ∃ (m : Nat) (rv : Value) (rows : List Row) (tb : List (V × Nat)), w.heap[d]? = some (.cells #[.map (some m), rv] 122) ∧ mapIs w Try.prog 26 ekV exN m tb ∧ slIs w 124 7 rowCells rv rows ∧
    liveRows rows = L ∧ (L.map (·.1)).Nodup ∧ (∀ k i, getL tb k = some i ↔ ∃ x, rows[i]? = some ⟨k, x, false⟩) ∧ tb.length = L.length ∧ F = d :: m :: rv.ownBlock.toList ∧ F.Nodup ∧ L.length ≤ 4096 ∧ rows.length ≤ 2 * 4096 + 9
theorem DictIs.of_block {w w' : World} {d : Nat} {L : List (V × V)} {F : List Nat} (h : DictIs w d L F) (hb : ∀ b ∈ F, w'.heap[b]? = w.heap[b]?) : DictIs w' d L F := by
  obtain ⟨m, rv, rows, tb, hd, hm, hr, hL, hn, hat, hlen, rfl, rest⟩ := h
  exact ⟨m, rv, rows, tb, (hb d (by simp)).trans hd, hm.of_block (hb m (by simp)), hr.of_block (fun g hg => hb g (by simp [hg])), hL, hn, hat, hlen, rfl, rest⟩
theorem DictIs.lt {w : World} {d : Nat} {L : List (V × V)} {F : List Nat} (h : DictIs w d L F) : ∀ b ∈ F, b < w.heap.size := by
  obtain ⟨m, rv, rows, tb, hd, hm, hr, hL, hn, hat, hlen, rfl, rest⟩ := h
  intro b hb
  rcases List.mem_cons.1 hb with rfl | hb
  · exact (Array.getElem?_eq_some_iff.1 hd).1
  · rcases List.mem_cons.1 hb with rfl | hb
    · exact hm.lt
    · exact hr.lt b (by simpa using hb)
theorem DictIs.outside {w w' : World} {d : Nat} {L : List (V × V)} {F G : List Nat} (h : DictIs w d L F) (ho : Outside G w w') (hFG : ∀ b ∈ F, b ∉ G) : DictIs w' d L F :=
  h.of_block fun b hb => ho.block b (h.lt b hb) (hFG b hb)
theorem DictIs.below {w w' : World} {d : Nat} {L : List (V × V)} {F : List Nat} (h : DictIs w d L F) (ho : Below w.heap.size w w') : DictIs w' d L F :=
  h.of_block fun b hb => ho.block b (h.lt b hb)
theorem dict_new (w : World) : Calls Try.prog 77 #[] w fun e w' => ∃ d F, e = .returned (.pointer (some ⟨d, 0, none⟩)) ∧ DictIs w' d [] F ∧ (∀ b ∈ F, w.heap.size ≤ b) ∧ Below w.heap.size w w' := by
  go_enter Try.func77, Try.ntmps77
  have hmk : ∀ w1 : World, (Instr.makeMap 119 none).run Try.prog w1 = .ok (.map (some w1.heap.size)) (w1.alloc (.map #[] 0)) := fun w1 => run_makeMap _ w1
  go_wp2
  go_ret
  refine ⟨w.heap.size + 1, [w.heap.size + 1, w.heap.size], rfl, ⟨w.heap.size, .slice none 0 0, [], [], ?_, (mapIs_made w _ _ _ _).alloc _, World.ownsRow_nil _ _ _ _, rfl, by simp, by simp [getL], rfl, rfl, by simp, by simp, by simp⟩, ?_, ((Below.refl _ _).alloc (Nat.le_refl _) _).alloc (by simp) _⟩
  · have := heapAllocNew (w.alloc (.map #[] 0)) (.cells #[.map (some w.heap.size), .slice none 0 0] 122)
    rwa [World.size_alloc] at this
  · intro b hb; simp at hb; omega
theorem dict_len (w : World) (d : Nat) (L : List (V × V)) (F : List Nat) (h : DictIs w d L F) : Calls Try.prog 76 #[.pointer (some ⟨d, 0, none⟩)] w fun e w' => e = .returned (.int .i64 L.length) ∧ w' = w := by
  obtain ⟨m, rv, rows, tb, hd, hm, hr, hL, hn, hat, hlen, hF, hnd, h4, h5⟩ := h
  have c0 := cellAt hd 0 (v := .map (some m)) rfl
  rw [← hlen]
  clear hr hF hat h5 hL hn hnd hlen h4
  go_enter Try.func76, Try.ntmps76
  have hrun : ∀ ty, (Builtin.len_ #[119] ty #[.map (some m)]).run Try.prog w = .ok (.int .i64 tb.length) w := fun ty => hm.len Try.underlying119 ty
  clear hm
  go_wp2
  go_ret
  exact ⟨rfl, rfl⟩
def V.isKey (v : V) : Bool := if v.kind = 0 then decide (v.n = 0) && v.s.toList.isEmpty else if v.kind = 1 then v.s.toList.isEmpty && (decide (v.n = 0) || decide (v.n = 1)) else if v.kind = 2 then v.s.toList.isEmpty else if v.kind = 3 then decide (v.n = 0) else false
theorem dict_key (w : World) (v : V) : Calls Try.prog 90 #[v.val] w fun e w' => e = .returned (.bool v.isKey) ∧ Below w.heap.size w w' := by
  obtain ⟨k, n, s, hk, hn, hs⟩ := v
  simp only [V.val]
  go_enter Try.func90, Try.ntmps90
  go_wp2
  all_goals go_ret
  all_goals (refine ⟨ret_b ?_, (Below.refl _ _).alloc (Nat.le_refl _) _⟩)
  all_goals try (simp_all [V.isKey]; done)
  · have e1 : (n / 2 == 0) = (decide (n = 0) || decide (n = 1)) := by
      rw [Bool.eq_iff_iff]; simp; omega
    simp_all [V.isKey]
  · have e1 : (n == 0) = decide (n = 0) := by rw [Bool.eq_iff_iff]; simp
    simp_all [V.isKey]
theorem dict_get (w : World) (d : Nat) (L : List (V × V)) (F : List Nat) (v : V) (h : DictIs w d L F) : Calls Try.prog 74 #[.pointer (some ⟨d, 0, none⟩), v.val] w fun e w' =>
    e = .returned (.tuple #[((getL L v).getD V.zero).val, .bool (getL L v).isSome]) ∧ Below w.heap.size w w' := by
  obtain ⟨m, rv, rows, tb, hd, hm, hr, hL, hn, hat, hlen, hF, hnd, h4, h5⟩ := h
  have c0 := cellAt hd 0 (v := .map (some m)) rfl
  have c1 := cellAt hd 1 (v := rv) rfl
  have dlt := blockLt hd
  clear hF hnd hlen h4
  obtain ⟨kl, hkl⟩ := keyOfV v
  simp only [V.val]
  go_enter Try.func74, Try.ntmps74
  have hz : ∀ W, (zeroValue 3).run Try.prog W = .ok (.int .i64 0) W := fun W => Try.zeroValue3 W
  cases hg : getL tb v with
  | some i =>
    obtain ⟨x, hx⟩ := (hat v i).1 hg
    have e1 : getL L v = some x := getL_of_mem hn (by rw [← hL]; exact List.mem_filterMap.2 ⟨_, List.mem_of_getElem? hx, Row.live_some.2 rfl⟩)
    rw [e1]
    have hlk : ∀ o o' n, (Instr.lookup 119 (.map (some m)) (.agg #[.int .i64 v.kind, .int .i64 v.n, .string v.s]) true).run Try.prog (((w.alloc o).alloc o').drewN n) = .ok (.tuple #[.int .i64 i, .bool true]) (((w.alloc o).alloc o').drewN n) := fun o o' n => by
      have := (((hm.alloc o).alloc o').drewN n).look ekV_inj keyV Try.underlying119 (hz _) hkl true
      rw [hg] at this; exact this
    clear hm hat hz hg hkl hL hn e1
    obtain ⟨g, cap, rfl, hcap, hmx, hglt⟩ : ∃ g cap, rv = .slice (some ⟨g, 0, none⟩) rows.length cap ∧ rows.length ≤ cap ∧ cap ≤ maxLen ∧ g < w.heap.size := by
      rcases hr.shape with ⟨_, rfl⟩ | h
      · simp at hx
      · exact h
    have hil : i < rows.length := (List.getElem?_eq_some_iff.1 hx).1
    have g3 := hr.cell rowCells_len rfl hx (j := 3) rfl
    have g4 := hr.cell rowCells_len rfl hx (j := 4) rfl
    have g5 := hr.cell rowCells_len rfl hx (j := 5) rfl
    have HX := Lib.hid hx; clear hx
    go_wp2
    go_quiet (fail)
    go_wp2
    go_returns
    refine ⟨rfl, ?_⟩
    below_tac
  | none =>
    have e1 : getL L v = none := by
      cases h' : getL L v with
      | none => rfl
      | some x =>
        obtain ⟨r, hr1, hr2⟩ := List.mem_filterMap.1 (hL ▸ getL_mem h')
        obtain ⟨i, hi⟩ := List.getElem?_of_mem hr1
        have := (hat v i).2 ⟨x, by rw [hi]; exact congrArg some (Row.live_some.1 hr2)⟩
        rw [hg] at this; cases this
    rw [e1]
    have hlk : ∀ o o' n, (Instr.lookup 119 (.map (some m)) (.agg #[.int .i64 v.kind, .int .i64 v.n, .string v.s]) true).run Try.prog (((w.alloc o).alloc o').drewN n) = .ok (.tuple #[.int .i64 0, .bool false]) (((w.alloc o).alloc o').drewN n) := fun o o' n => by
      have := (((hm.alloc o).alloc o').drewN n).look ekV_inj keyV Try.underlying119 (hz _) hkl true
      rw [hg] at this; exact this
    clear hm hat hz hg hkl hL hn e1 hr
    go_wp2
    go_quiet (fail)
    go_wp2
    go_returns
    refine ⟨rfl, ?_⟩
    below_tac
end Go.Proofs.Ytoancpjlkhijiaa
