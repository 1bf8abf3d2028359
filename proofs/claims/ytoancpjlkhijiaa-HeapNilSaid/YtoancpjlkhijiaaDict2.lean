/- Dicts: rows that were taken out are left out. -/
import Derived.Test.YtoancpjlkhijiaaDict1
import Derived.Lib.SliceRun
import Derived.Shelf.Abstract
namespace Go.Proofs.Ytoancpjlkhijiaa
open Go.RowKit
set_option linter.unusedVariables false
def Row.val (p : Row) : Value := .agg #[.int .i64 p.k.kind, .int .i64 p.k.n, .string p.k.s, .int .i64 p.x.kind, .int .i64 p.x.n, .string p.x.s, .bool p.gone]
theorem gone_ok (w : World) (p : Row) : Calls Try.prog 108 #[p.val] w fun e w' => e = .returned (.bool p.gone) ∧ Below w.heap.size w w' := by
  simp only [Row.val]
  go_enter Try.func108, Try.ntmps108
  go_wp2
  go_returns
  exact ⟨rfl, by below_tac⟩
theorem rowFacts {w : World} {g c : Nat} {rows : List Row} (h : slIs w 124 7 rowCells (.slice (some ⟨g, 0, none⟩) rows.length c) rows) {i : Nat} {p : Row} (hi : rows[i]? = some p) :
    w.cell? ⟨g, i * 7, none⟩ = some (.int .i64 p.k.kind) ∧ w.cell? ⟨g, i * 7 + 1, none⟩ = some (.int .i64 p.k.n) ∧ w.cell? ⟨g, i * 7 + 2, none⟩ = some (.string p.k.s) ∧ w.cell? ⟨g, i * 7 + 3, none⟩ = some (.int .i64 p.x.kind) ∧ w.cell? ⟨g, i * 7 + 4, none⟩ = some (.int .i64 p.x.n) ∧ w.cell? ⟨g, i * 7 + 5, none⟩ = some (.string p.x.s) ∧ w.cell? ⟨g, i * 7 + 6, none⟩ = some (.bool p.gone) :=
  ⟨h.cell rowCells_len rfl hi (j := 0) rfl, h.cell rowCells_len rfl hi rfl, h.cell rowCells_len rfl hi rfl, h.cell rowCells_len rfl hi rfl, h.cell rowCells_len rfl hi rfl, h.cell rowCells_len rfl hi rfl, h.cell rowCells_len rfl hi rfl⟩
theorem enters_gone : Enters Try.prog 108 := enters_of Try.func108 (by kernel_rfl) rfl
def idxGone (rows : List Row) : Int := match rows.findIdx? (·.gone) with | some i => i | none => -1
theorem index_gone (w : World) (g c : Nat) (rows : List Row) (h : slIs w 124 7 rowCells (.slice (some ⟨g, 0, none⟩) rows.length c) rows) (hlen : rows.length ≤ 281474976710656) :
    Calls Try.prog 115 #[.slice (some ⟨g, 0, none⟩) rows.length c, .func (.func 108) #[] #[]] w fun e w' => e = .returned (.int .i64 (idxGone rows)) ∧ Below w.heap.size w w' := by
  have HS := Lib.hid h
  have hglt := h.lt g rfl
  have hcap : rows.length ≤ c := by rcases h.shape with ⟨h1, h2⟩ | ⟨g', cap, h1, h2, _⟩; cases h1; cases h1; exact h2
  clear h
  go_enter Try.func115, Try.ntmps115
  go_wp2_with fail
  go_loopw [8] (fun i wr => ∃ k : Nat, k ≤ rows.length ∧ i = .int .i64 k ∧ Hid (∀ j p, j < k → rows[j]? = some p → p.gone = false) ∧ Below w.heap.size w wr) (fun i _ => rows.length - (intOf i).toNat)
  case atStart => exact ⟨0, by omega, rfl, fun j p hj => absurd hj (by omega), Below.refl _ _⟩
  case round =>
    obtain ⟨k, hk, rfl, HK, hb⟩ := hrel
    have hsz := hb.size
    by_cases hlt : k < rows.length
    · obtain ⟨p, hp⟩ : ∃ p, rows[k]? = some p := ⟨rows[k], by simp [hlt]⟩
      obtain ⟨d0, d1, d2, d3, d4, d5, d6⟩ := rowFacts HS.out hp
      rw [← hb.cell (p := ⟨g, _, none⟩) hglt] at d0 d1 d2 d3 d4 d5 d6
      have HP := Lib.hid hp
      clear hp
      go_wp2_with fail
      refine (gone_ok _ p).mono ?_
      rintro e w' ⟨rfl, hb'⟩
      have hb2 : Below w.heap.size w w' := hb.trans (hb'.mono hsz)
      cases hg : p.gone with
      | true =>
        go_wp2_with fail
        go_returns
        refine ⟨?_, hb2⟩
        have e : idxGone rows = k := by
          have hf : rows.findIdx? (·.gone) = some k := by
            rw [List.findIdx?_eq_some_iff_getElem]
            have hp := HP.out
            refine ⟨hlt, ?_, fun j hj => ?_⟩
            · rw [(List.getElem?_eq_some_iff.1 hp).2]; exact hg
            · have := HK.out j rows[j] hj (by simp)
              simp [this]
          rw [idxGone, hf]
        rw [e]; rfl
      | false =>
        go_wp2_with fail
        refine ⟨⟨k + 1, by omega, rfl, fun j q hj hq => ?_, hb2⟩, by simp [intOf]; omega⟩
        by_cases e : j = k
        · subst e; have hp := HP.out; rw [hp] at hq; cases hq; exact hg
        · exact HK.out j q (by omega) hq
    · have : k = rows.length := by omega
      subst this
      go_wp2_with fail
      go_returns
      refine ⟨?_, hb⟩
      have e : idxGone rows = -1 := by
        rw [idxGone, List.findIdx?_eq_none_iff.2 (fun x hx => by obtain ⟨j, hj⟩ := List.getElem?_of_mem hx; have := HK.out j x (List.getElem?_eq_some_iff.1 hj).1 hj; simp [this])]
      rw [e]; rfl
theorem delete_gone (w : World) (g c : Nat) (rows : List Row) (h : slIs w 124 7 rowCells (.slice (some ⟨g, 0, none⟩) rows.length c) rows) (hlen : rows.length ≤ 281474976710656) :
    Calls Try.prog 107 #[.slice (some ⟨g, 0, none⟩) rows.length c, .func (.func 108) #[] #[]] w fun e w' =>
      e = .returned (.slice (some ⟨g, 0, none⟩) (rows.filter (!·.gone)).length c) ∧ slIs w' 124 7 rowCells (.slice (some ⟨g, 0, none⟩) (rows.filter (!·.gone)).length c) (rows.filter (!·.gone)) ∧ Outside [g] w w' := by
  have HS := Lib.hid h
  have hglt := h.lt g rfl
  have hcap : rows.length ≤ c := by rcases h.shape with ⟨h1, h2⟩ | ⟨g', cap, h1, h2, _⟩; cases h1; cases h1; exact h2
  clear h
  go_enter Try.func107, Try.ntmps107
  go_wp2_with fail
  refine (index_gone w g c rows HS.out hlen).mono ?_
  rintro e w1 ⟨rfl, hb1⟩
  cases hf : rows.findIdx? (·.gone) with
  | none =>
    have e0 : idxGone rows = -1 := by rw [idxGone, hf]
    rw [e0]
    have hall : rows.filter (!·.gone) = rows := List.filter_eq_self.2 fun x hx => by
      have := List.findIdx?_eq_none_iff.1 hf x hx; simpa using this
    clear hf e0
    go_wp2_with fail
    go_returns
    rw [hall]
    exact ⟨rfl, HS.out.of_block (fun g' hg' => hb1.block g' (HS.out.lt g' hg')), Outside.of_below hb1 _⟩
  | some i0 =>
    have e0 : idxGone rows = i0 := by rw [idxGone, hf]
    rw [e0]
    clear e0
    rw [List.findIdx?_eq_some_iff_getElem] at hf
    obtain ⟨hi0, hg0, hbef⟩ := hf
    have HB := Lib.hid hbef
    have HG := Lib.hid hg0
    clear hbef hg0
    go_wp2_with fail
    go_loopw [5, 6] (fun i j wr => ∃ (x y : Nat) (cur : List Row), i = .int .i64 x ∧ j = .int .i64 y ∧ x < y ∧ y ≤ rows.length ∧ cur.length = rows.length ∧ Hid (cur.take x = (rows.take y).filter (!·.gone)) ∧ Hid (∀ t, y ≤ t → cur[t]? = rows[t]?) ∧ Hid (slIs wr 124 7 rowCells (.slice (some ⟨g, 0, none⟩) cur.length c) cur) ∧ Outside [g] w wr) (fun _ j _ => rows.length - (intOf j).toNat)
    case atStart =>
      refine ⟨i0, i0 + 1, rows, rfl, rfl, by omega, by omega, rfl, ?_, fun _ _ => rfl, HS.out.of_block (fun g' hg' => hb1.block g' (HS.out.lt g' hg')), Outside.of_below hb1 _⟩
      show rows.take i0 = _
      rw [List.take_add_one, List.getElem?_eq_getElem hi0, List.filter_append]
      have h1 : (rows.take i0).filter (!·.gone) = rows.take i0 := List.filter_eq_self.2 fun x hx => by
        obtain ⟨j, hj⟩ := List.getElem?_of_mem hx
        rw [List.getElem?_take] at hj
        split at hj
        · rename_i hlt
          have := HB.out j hlt
          rw [(List.getElem?_eq_some_iff.1 hj).2] at this
          simpa using this
        · cases hj
      rw [h1]
      have := HG.out
      simp [this]
    case round =>
      obtain ⟨x, y, cur, rfl, rfl, hxy, hy, hcl, HT, HD, HC, ho⟩ := hrel
      have hsz := ho.size
      by_cases hlt : y < rows.length
      · obtain ⟨p, hp⟩ : ∃ p, rows[y]? = some p := ⟨rows[y], by simp [hlt]⟩
        have hcp : cur[y]? = some p := (HD.out y (Nat.le_refl _)).trans hp
        obtain ⟨q, hq⟩ : ∃ q, cur[x]? = some q := ⟨cur[x], by rw [List.getElem?_eq_getElem]⟩
        obtain ⟨d0, d1, d2, d3, d4, d5, d6⟩ := rowFacts HC.out hcp
        have HP := Lib.hid hp
        have HQ := Lib.hid hq
        clear hp hcp hq
        have hgr := HC.out.lt g rfl
        go_wp2_with fail
        refine (gone_ok _ p).mono ?_
        rintro e w' ⟨rfl, hb'⟩
        have hkb : ∀ b, b < wr.heap.size → w'.heap[b]? = wr.heap[b]? := fun b hb => (hb'.block b (by simp; omega)).trans (Below.heap_alloc _ _ _ hb)
        have HC' := Lib.hid (HC.out.of_block (w' := w') (fun g' hg' => hkb g' (HC.out.lt g' hg')))
        have ho' : Outside [g] w w' := (ho.alloc _).trans (Outside.of_below hb' [g]) (Grow.refl _ _)
        have hg1 : w'.heap.size ≥ wr.heap.size + 1 := by have := hb'.size; simpa using this
        have hcell : w'.cell? ⟨wr.heap.size, 0, none⟩ = some (.int .i64 p.k.kind) ∧ w'.cell? ⟨wr.heap.size, 1, none⟩ = some (.int .i64 p.k.n) ∧ w'.cell? ⟨wr.heap.size, 2, none⟩ = some (.string p.k.s) ∧ w'.cell? ⟨wr.heap.size, 3, none⟩ = some (.int .i64 p.x.kind) ∧ w'.cell? ⟨wr.heap.size, 4, none⟩ = some (.int .i64 p.x.n) ∧ w'.cell? ⟨wr.heap.size, 5, none⟩ = some (.string p.x.s) ∧ w'.cell? ⟨wr.heap.size, 6, none⟩ = some (.bool p.gone) := by
          have hh := (hb'.block wr.heap.size (by simp)).trans (heapAllocNew wr _)
          exact ⟨cellAt hh 0 rfl, cellAt hh 1 rfl, cellAt hh 2 rfl, cellAt hh 3 rfl, cellAt hh 4 rfl, cellAt hh 5 rfl, cellAt hh 6 rfl⟩
        obtain ⟨b0, b1, b2, b3, b4, b5, b6⟩ := hcell
        obtain ⟨q0, q1, q2, q3, q4, q5, q6⟩ := rowFacts HC'.out HQ.out
        have hfr : ∀ i, w'.frozen? ⟨g, i, none⟩ = false := fun i => HC'.out.frozen rfl i
        have hne : g ≠ wr.heap.size := by omega
        clear hkb d0 d1 d2 d3 d4 d5 d6
        have HO := Lib.hid ho'
        clear ho'
        cases hg : p.gone with
        | true =>
          rw [hg] at b6
          go_wp2_with fail
          go_roundw
          case rel =>
            round_ex
            refine ⟨x, y + 1, cur, rfl, rfl, by omega, by omega, hcl, ?_, fun t ht => HD.out t (by omega), HC', HO.out⟩
            show cur.take x = _
            rw [List.take_add_one, HP.out, List.filter_append, ← HT.out]
            simp [hg]
          case measure => simp [intOf]; omega
        | false =>
          rw [hg] at b6
          go_wp2_with fail
          go_roundw
          case rel =>
            round_ex
            have hxl : x < cur.length := by omega
            refine ⟨x + 1, y + 1, cur.set x p, rfl, rfl, by omega, by omega, by rw [List.length_set]; exact hcl, ?_, fun t ht => ?_, ?_, ?_⟩
            · show (cur.set x p).take (x + 1) = _
              have t1 : rows.take (y + 1) = rows.take y ++ [p] := by rw [List.take_add_one, HP.out]; rfl
              have t2 : [p].filter (!·.gone) = [p] := by simp [hg]
              rw [t1, List.filter_append, ← HT.out, t2, List.take_add_one, List.take_set_of_le (Nat.le_refl _), List.getElem?_set_self hxl]; rfl
            · show (cur.set x p)[t]? = _
              rw [List.getElem?_set_ne (by omega)]; exact HD.out t (by omega)
            · have := HC'.out.putAt rowCells_len hxl (a' := p)
              rw [List.length_set]
              simp only [rowCells, hg] at this
              exact this
            · exact Outside.setCells (F := [g]) (.inl (by simp)) [_, _, _, _, _, _, _] (x * 7) HO.out
          case measure => simp [intOf]; omega
      · have : y = rows.length := by omega
        subst this
        have hgr := HC.out.lt g rfl
        have hce : ∀ j, j < (rows.length - x) * 7 → ∃ v, wr.cell? ⟨g, x * 7 + j, none⟩ = some v := fun j hj => by
          rcases HC.out.2 with ⟨h1, _⟩ | ⟨g', cap, arr, h1, h0, hg, h2, h3, h4, h5⟩
          · cases h1
          · cases h1
            exact ⟨_, cellAt hg _ (Array.getElem?_eq_getElem (by omega))⟩
        obtain ⟨vs, hrun, hvl⟩ : ∃ vs, (∀ ty, (Builtin.clear_ #[120] ty #[.slice (some ⟨g, x * 7, none⟩) (rows.length - x) (c - x)]).run Try.prog wr = .ok (.tuple #[]) (wr.setCells g (x * 7) vs)) ∧ True := by
          obtain ⟨vs, h1, _⟩ := run_clear_row (P := Try.prog) wr 120 124 0 _ Try.underlying120 Try.zeroValue124 (by decide) g (x * 7) (rows.length - x) (c - x) (by omega) (fun j hj => by obtain ⟨v, hv⟩ := hce j hj; rw [hv]; rfl) (fun j hj => HC.out.frozen rfl _)
          exact ⟨vs, fun ty => h1, trivial⟩
        clear hce
        go_wp2_with fail
        go_returns
        have e1 : rows.filter (!·.gone) = cur.take x := by
          have := HT.out; rw [List.take_length] at this; exact this.symm
        have e2 : (cur.take x).length = x := by rw [List.length_take]; omega
        rw [e1, e2]
        refine ⟨rfl, ?_, Outside.setCells (.inl (by simp)) vs _ ho⟩
        have h9 := HC.out.take rowCells_len (x := x) (by omega)
        have h10 : slIs wr 124 7 rowCells (.slice (some ⟨g, 0, none⟩) (cur.take x).length c) (cur.take x) := by rw [e2]; exact h9
        have h11 := h10.setBeyond rowCells_len (o := x * 7) (by rw [e2]; exact Nat.le_refl _) vs
        rw [e2] at h11; exact h11
end Go.Proofs.Ytoancpjlkhijiaa
