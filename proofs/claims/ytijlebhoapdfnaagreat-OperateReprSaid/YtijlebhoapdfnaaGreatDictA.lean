import Derived.Test.YtijlebhoapdfnaaGreatVal
import Derived.Carry
import Derived.Handy
import Derived.Lib.SliceRun
import Derived.Shelf.Abstract
/- Dicts: what lies in memory; New, Len, Key. -/
namespace Go.Proofs.YtijlebhoapdfnaaGreat
set_option linter.unusedSimpArgs false
open Go.RowKit
set_option linter.unusedVariables false
def exN (i : Nat) : Value := .int .i64 i
/-- A row: a key, a value, whether it was taken out. -/
structure Row where
 k : V
 x : V
 gone : Bool
def rowCells (p : Row) : List Value := [.int .i64 p.k.kind, .int .i64 p.k.n, .string p.k.s, .int .i64 p.x.kind, .int .i64 p.x.n, .string p.x.s, .bool p.gone]
theorem rowCells_len (a : Row) : (rowCells a).length = 7 := rfl
def Row.live (p : Row) : Option (V × V) := if p.gone then none else some (p.k, p.x)
def liveRows (rows : List Row) : List (V × V) := rows.filterMap Row.live
theorem Row.live_some {p : Row} {k x : V} : p.live = some (k, x) ↔ p = ⟨k, x, false⟩ := by
 cases p with | mk a b g => cases g <;> simp [Row.live]
/-- At block d lies a dict that has the pairs L, in order; F are its blocks. -/
def DictIs (w : World) (d : Nat) (L : List (V × V)) (F : List Nat) : Prop :=
 ∃ (m : Nat) (rv : Value) (rows : List Row) (tb : List (V × Nat)), w.heap[d]? = some (.cells #[.map (some m), rv] 194) ∧ mapIs w Tryz.prog 24 ekV exN m tb ∧ slIs w 199 7 rowCells rv rows ∧
  liveRows rows = L ∧ (L.map (·.1)).Nodup ∧ (∀ k i, getL tb k = some i ↔ ∃ x, rows[i]? = some ⟨k, x, false⟩) ∧ tb.length = L.length ∧ F = d :: m :: rv.ownBlock.toList ∧ F.Nodup ∧ L.length ≤ 4096 ∧ rows.length ≤ 2 * 4096 + 9
theorem DictIs.of_block {w w' : World} {d : Nat} {L : List (V × V)} {F : List Nat} (h : DictIs w d L F) (hb : ∀ b ∈ F, w'.heap[b]? = w.heap[b]?) : DictIs w' d L F := by
 obtain ⟨m, rv, rows, tb, hd, hm, hr, hL, hn, hat, hlen, rfl, rest⟩ := h
 exact ⟨m, rv, rows, tb, (hb d (by simp)).trans hd, hm.of_block (hb m (by simp)), hr.of_block (fun g hg => hb g (by simp [hg])), hL, hn, hat, hlen, rfl, rest⟩
theorem DictIs.lt {w : World} {d : Nat} {L : List (V × V)} {F : List Nat} (h : DictIs w d L F) : ∀ b ∈ F, b < w.heap.size := by
 obtain ⟨m, rv, rows, tb, hd, hm, hr, hL, hn, hat, hlen, rfl, rest⟩ := h
 intro b hb
 rcases List.mem_cons.1 hb with rfl | hb
 ·
  exact (Array.getElem?_eq_some_iff.1 hd).1
 ·
  rcases List.mem_cons.1 hb with rfl | hb
  ·
   exact hm.lt
  ·
   exact hr.lt b (by simpa using hb)
theorem DictIs.outside {w w' : World} {d : Nat} {L : List (V × V)} {F G : List Nat} (h : DictIs w d L F) (ho : Outside G w w') (hFG : ∀ b ∈ F, b ∉ G) : DictIs w' d L F :=
 h.of_block fun b hb => ho.block b (h.lt b hb) (hFG b hb)
theorem DictIs.below {w w' : World} {d : Nat} {L : List (V × V)} {F : List Nat} (h : DictIs w d L F) (ho : Below w.heap.size w w') : DictIs w' d L F :=
 h.of_block fun b hb => ho.block b (h.lt b hb)
theorem dict_new (w : World) : Calls Tryz.prog 127 #[] w fun e w' => ∃ d F, e = .returned (.pointer (some ⟨d, 0, none⟩)) ∧ DictIs w' d [] F ∧ (∀ b ∈ F, w.heap.size ≤ b) ∧ Below w.heap.size w w' := by
 go_enter Tryz.func127, Tryz.ntmps127
 have hmk : ∀ w1 : World, (Instr.makeMap 191 none).run Tryz.prog w1 = .ok (.map (some w1.heap.size)) (w1.alloc (.map #[] 0)) := fun w1 => run_makeMap _ w1
 go_wp2
 go_ret
 refine ⟨w.heap.size + 1, [w.heap.size + 1, w.heap.size], rfl, ⟨w.heap.size, .slice none 0 0, [], [], ?_, (mapIs_made w _ _ _ _).alloc _, World.ownsRow_nil _ _ _ _, rfl, by simp, by simp [getL], rfl, rfl, by simp, by simp, by simp⟩, ?_, ((Below.refl _ _).alloc (Nat.le_refl _) _).alloc (by simp) _⟩
 ·
  have := heapAllocNew (w.alloc (.map #[] 0)) (.cells #[.map (some w.heap.size), .slice none 0 0] 194)
  rwa [World.size_alloc] at this
 ·
  intro b hb; simp at hb; omega
theorem dict_len (w : World) (d : Nat) (L : List (V × V)) (F : List Nat) (h : DictIs w d L F) : Calls Tryz.prog 186 #[.pointer (some ⟨d, 0, none⟩)] w fun e w' => e = .returned (.int .i64 L.length) ∧ w' = w := by
 obtain ⟨m, rv, rows, tb, hd, hm, hr, hL, hn, hat, hlen, hF, hnd, h4, h5⟩ := h
 have c0 := cellAt hd 0 (v := .map (some m)) rfl
 rw [← hlen]
 clear hr hF hat h5 hL hn hnd hlen h4
 go_enter Tryz.func186, Tryz.ntmps186
 have hrun : ∀ ty, (Builtin.len_ #[191] ty #[.map (some m)]).run Tryz.prog w = .ok (.int .i64 tb.length) w := fun ty => hm.len Tryz.underlying191 ty
 clear hm
 go_wp2
 go_ret
 exact ⟨rfl, rfl⟩
def V.isKey (v : V) : Bool := if v.kind = 0 then decide (v.n = 0) && v.s.toList.isEmpty else if v.kind = 1 then v.s.toList.isEmpty && (decide (v.n = 0) || decide (v.n = 1)) else if v.kind = 2 then v.s.toList.isEmpty else if v.kind = 3 then decide (v.n = 0) else false
theorem dict_key (w : World) (v : V) : Calls Tryz.prog 89 #[v.val] w fun e w' => e = .returned (.bool v.isKey) ∧ Below w.heap.size w w' := by
 obtain ⟨k, n, s, hk, hn, hs⟩ := v
 simp only [V.val]
 go_enter Tryz.func89, Tryz.ntmps89
 go_wp2
 all_goals go_ret
 all_goals (refine ⟨ret_b ?_, (Below.refl _ _).alloc (Nat.le_refl _) _⟩)
 all_goals try (simp_all [V.isKey]; done)
 ·
  have e1 : (n / 2 == 0) = (decide (n = 0) || decide (n = 1)) := by
   rw [Bool.eq_iff_iff]; simp; omega
  simp_all [V.isKey]
 ·
  have e1 : (n == 0) = decide (n = 0) := by rw [Bool.eq_iff_iff]; simp
  simp_all [V.isKey]
theorem dict_get (w : World) (d : Nat) (L : List (V × V)) (F : List Nat) (v : V) (h : DictIs w d L F) : Calls Tryz.prog 133 #[.pointer (some ⟨d, 0, none⟩), v.val] w fun e w' =>
  e = .returned (.tuple #[((getL L v).getD V.zero).val, .bool (getL L v).isSome]) ∧ Below w.heap.size w w' := by
 obtain ⟨m, rv, rows, tb, hd, hm, hr, hL, hn, hat, hlen, hF, hnd, h4, h5⟩ := h
 have c0 := cellAt hd 0 (v := .map (some m)) rfl
 have c1 := cellAt hd 1 (v := rv) rfl
 have dlt := blockLt hd
 clear hF hnd hlen h4
 obtain ⟨kl, hkl⟩ := keyOfV v
 simp only [V.val]
 go_enter Tryz.func133, Tryz.ntmps133
 have hz : ∀ W, (zeroValue 3).run Tryz.prog W = .ok (.int .i64 0) W := fun W => Tryz.zeroValue3 W
 cases hg : getL tb v with
 | some i =>
  obtain ⟨x, hx⟩ := (hat v i).1 hg
  have e1 : getL L v = some x := getL_of_mem hn (by rw [← hL]; exact List.mem_filterMap.2 ⟨_, List.mem_of_getElem? hx, Row.live_some.2 rfl⟩)
  rw [e1]
  have hlk : ∀ o o' n, (Instr.lookup 191 (.map (some m)) (.agg #[.int .i64 v.kind, .int .i64 v.n, .string v.s]) true).run Tryz.prog (((w.alloc o).alloc o').drewN n) = .ok (.tuple #[.int .i64 i, .bool true]) (((w.alloc o).alloc o').drewN n) := fun o o' n => by
   have := (((hm.alloc o).alloc o').drewN n).look ekV_inj keyV Tryz.underlying191 (hz _) hkl true
   rw [hg] at this; exact this
  clear hm hat hz hg hkl hL hn e1
  obtain ⟨g, cap, rfl, hcap, hmx, hglt⟩ : ∃ g cap, rv = .slice (some ⟨g, 0, none⟩) rows.length cap ∧ rows.length ≤ cap ∧ cap ≤ maxLen ∧ g < w.heap.size := by
   rcases hr.shape with ⟨_, rfl⟩ | h
   ·
    simp at hx
   ·
    exact h
  have hil : i < rows.length := (List.getElem?_eq_some_iff.1 hx).1
  have g3 := hr.cell rowCells_len rfl hx (j := 3) rfl
  have g4 := hr.cell rowCells_len rfl hx (j := 4) rfl
  have g5 := hr.cell rowCells_len rfl hx (j := 5) rfl
  have HX := Lib.hid hx; clear hx
  go_wp2
  go_quiet (fail)
  go_wp2
  go_returns
  refine ⟨rfl, ?_⟩
  exact belowA
 | none =>
  have e1 : getL L v = none := by
   cases h' : getL L v with
   | none => rfl
   | some x =>
    obtain ⟨r, hr1, hr2⟩ := List.mem_filterMap.1 (hL ▸ getL_mem h')
    obtain ⟨i, hi⟩ := List.getElem?_of_mem hr1
    have := (hat v i).2 ⟨x, by rw [hi]; exact congrArg some (Row.live_some.1 hr2)⟩
    rw [hg] at this; cases this
  rw [e1]
  have hlk : ∀ o o' n, (Instr.lookup 191 (.map (some m)) (.agg #[.int .i64 v.kind, .int .i64 v.n, .string v.s]) true).run Tryz.prog (((w.alloc o).alloc o').drewN n) = .ok (.tuple #[.int .i64 0, .bool false]) (((w.alloc o).alloc o').drewN n) := fun o o' n => by
   have := (((hm.alloc o).alloc o').drewN n).look ekV_inj keyV Tryz.underlying191 (hz _) hkl true
   rw [hg] at this; exact this
  clear hm hat hz hg hkl hL hn e1 hr
  go_wp2
  go_quiet (fail)
  go_wp2
  go_returns
  refine ⟨rfl, ?_⟩
  exact belowA
end Go.Proofs.YtijlebhoapdfnaaGreat
/- Dicts: rows that were taken out are left out. -/
namespace Go.Proofs.YtijlebhoapdfnaaGreat
set_option linter.unusedSimpArgs false
open Go.RowKit
set_option linter.unusedVariables false
def Row.val (p : Row) : Value := .agg #[.int .i64 p.k.kind, .int .i64 p.k.n, .string p.k.s, .int .i64 p.x.kind, .int .i64 p.x.n, .string p.x.s, .bool p.gone]
theorem gone_ok (w : World) (p : Row) : Calls Tryz.prog 204 #[p.val] w fun e w' => e = .returned (.bool p.gone) ∧ Below w.heap.size w w' := by
 simp only [Row.val]
 go_enter Tryz.func204, Tryz.ntmps204
 go_wp2
 go_returns
 exact ⟨rfl, by exact belowA⟩
theorem rowFacts {w : World} {g c : Nat} {rows : List Row} (h : slIs w 199 7 rowCells (.slice (some ⟨g, 0, none⟩) rows.length c) rows) {i : Nat} {p : Row} (hi : rows[i]? = some p) :
  w.cell? ⟨g, i * 7, none⟩ = some (.int .i64 p.k.kind) ∧ w.cell? ⟨g, i * 7 + 1, none⟩ = some (.int .i64 p.k.n) ∧ w.cell? ⟨g, i * 7 + 2, none⟩ = some (.string p.k.s) ∧ w.cell? ⟨g, i * 7 + 3, none⟩ = some (.int .i64 p.x.kind) ∧ w.cell? ⟨g, i * 7 + 4, none⟩ = some (.int .i64 p.x.n) ∧ w.cell? ⟨g, i * 7 + 5, none⟩ = some (.string p.x.s) ∧ w.cell? ⟨g, i * 7 + 6, none⟩ = some (.bool p.gone) :=
 ⟨h.cell rowCells_len rfl hi (j := 0) rfl, h.cell rowCells_len rfl hi rfl, h.cell rowCells_len rfl hi rfl, h.cell rowCells_len rfl hi rfl, h.cell rowCells_len rfl hi rfl, h.cell rowCells_len rfl hi rfl, h.cell rowCells_len rfl hi rfl⟩
def idxGone (rows : List Row) : Int := match rows.findIdx? (·.gone) with | some i => i | none => -1
theorem index_gone (w : World) (g c : Nat) (rows : List Row) (h : slIs w 199 7 rowCells (.slice (some ⟨g, 0, none⟩) rows.length c) rows) (hlen : rows.length ≤ 281474976710656) :
  Calls Tryz.prog 228 #[.slice (some ⟨g, 0, none⟩) rows.length c, .func (.func 204) #[] #[]] w fun e w' => e = .returned (.int .i64 (idxGone rows)) ∧ Below w.heap.size w w' := by
 have HS := Lib.hid h
 have hglt := h.lt g rfl
 have hcap : rows.length ≤ c := by rcases h.shape with ⟨h1, h2⟩ | ⟨g', cap, h1, h2, _⟩; cases h1; cases h1; exact h2
 clear h
 go_enter Tryz.func228, Tryz.ntmps228
 go_wp2_with fail
 go_loopw [8] (fun i wr => ∃ k : Nat, k ≤ rows.length ∧ i = .int .i64 k ∧ Hid (∀ j p, j < k → rows[j]? = some p → p.gone = false) ∧ Below w.heap.size w wr) (fun i _ => rows.length - (intOf i).toNat)
 case atStart => exact ⟨0, by omega, rfl, fun j p hj => absurd hj (by omega), Below.refl _ _⟩
 case round =>
  obtain ⟨k, hk, rfl, HK, hb⟩ := hrel
  have hsz := hb.size
  by_cases hlt : k < rows.length
  ·
   obtain ⟨p, hp⟩ : ∃ p, rows[k]? = some p := ⟨rows[k], by simp [hlt]⟩
   obtain ⟨d0, d1, d2, d3, d4, d5, d6⟩ := rowFacts HS.out hp
   rw [← hb.cell (p := ⟨g, _, none⟩) hglt] at d0 d1 d2 d3 d4 d5 d6
   have HP := Lib.hid hp
   clear hp
   go_wp2_with fail
   refine (gone_ok _ p).mono ?_
   rintro e w' ⟨rfl, hb'⟩
   have hb2 : Below w.heap.size w w' := hb.trans (hb'.mono hsz)
   cases hg : p.gone with
   | true =>
    go_wp2_with fail
    go_returns
    refine ⟨?_, hb2⟩
    have e : idxGone rows = k := by
     have hf : rows.findIdx? (·.gone) = some k := by
      rw [List.findIdx?_eq_some_iff_getElem]
      have hp := HP.out
      refine ⟨hlt, ?_, fun j hj => ?_⟩
      ·
       rw [(List.getElem?_eq_some_iff.1 hp).2]; exact hg
      ·
       have := HK.out j rows[j] hj (by simp)
       simp [this]
     rw [idxGone, hf]
    rw [e]; rfl
   | false =>
    go_wp2_with fail
    refine ⟨⟨k + 1, by omega, rfl, fun j q hj hq => ?_, hb2⟩, by simp [intOf]; omega⟩
    by_cases e : j = k
    ·
     subst e; have hp := HP.out; rw [hp] at hq; cases hq; exact hg
    ·
     exact HK.out j q (by omega) hq
  ·
   have : k = rows.length := by omega
   subst this
   go_wp2_with fail
   go_returns
   refine ⟨?_, hb⟩
   have e : idxGone rows = -1 := by
    rw [idxGone, List.findIdx?_eq_none_iff.2 (fun x hx => by obtain ⟨j, hj⟩ := List.getElem?_of_mem hx; have := HK.out j x (List.getElem?_eq_some_iff.1 hj).1 hj; simp [this])]
   rw [e]; rfl
theorem delete_gone (w : World) (g c : Nat) (rows : List Row) (h : slIs w 199 7 rowCells (.slice (some ⟨g, 0, none⟩) rows.length c) rows) (hlen : rows.length ≤ 281474976710656) :
  Calls Tryz.prog 203 #[.slice (some ⟨g, 0, none⟩) rows.length c, .func (.func 204) #[] #[]] w fun e w' =>
   e = .returned (.slice (some ⟨g, 0, none⟩) (rows.filter (!·.gone)).length c) ∧ slIs w' 199 7 rowCells (.slice (some ⟨g, 0, none⟩) (rows.filter (!·.gone)).length c) (rows.filter (!·.gone)) ∧ Outside [g] w w' := by
 have HS := Lib.hid h
 have hglt := h.lt g rfl
 have hcap : rows.length ≤ c := by rcases h.shape with ⟨h1, h2⟩ | ⟨g', cap, h1, h2, _⟩; cases h1; cases h1; exact h2
 clear h
 go_enter Tryz.func203, Tryz.ntmps203
 go_wp2_with fail
 refine (index_gone w g c rows HS.out hlen).mono ?_
 rintro e w1 ⟨rfl, hb1⟩
 cases hf : rows.findIdx? (·.gone) with
 | none =>
  have e0 : idxGone rows = -1 := by rw [idxGone, hf]
  rw [e0]
  have hall : rows.filter (!·.gone) = rows := List.filter_eq_self.2 fun x hx => by
   have := List.findIdx?_eq_none_iff.1 hf x hx; simpa using this
  clear hf e0
  go_wp2_with fail
  go_returns
  rw [hall]
  exact ⟨rfl, HS.out.of_block (fun g' hg' => hb1.block g' (HS.out.lt g' hg')), Outside.of_below hb1 _⟩
 | some i0 =>
  have e0 : idxGone rows = i0 := by rw [idxGone, hf]
  rw [e0]
  clear e0
  rw [List.findIdx?_eq_some_iff_getElem] at hf
  obtain ⟨hi0, hg0, hbef⟩ := hf
  have HB := Lib.hid hbef
  have HG := Lib.hid hg0
  clear hbef hg0
  go_wp2_with fail
  go_loopw [5, 6] (fun i j wr => ∃ (x y : Nat) (cur : List Row), i = .int .i64 x ∧ j = .int .i64 y ∧ x < y ∧ y ≤ rows.length ∧ cur.length = rows.length ∧ Hid (cur.take x = (rows.take y).filter (!·.gone)) ∧ Hid (∀ t, y ≤ t → cur[t]? = rows[t]?) ∧ Hid (slIs wr 199 7 rowCells (.slice (some ⟨g, 0, none⟩) cur.length c) cur) ∧ Outside [g] w wr) (fun _ j _ => rows.length - (intOf j).toNat)
  case atStart =>
   refine ⟨i0, i0 + 1, rows, rfl, rfl, by omega, by omega, rfl, ?_, fun _ _ => rfl, HS.out.of_block (fun g' hg' => hb1.block g' (HS.out.lt g' hg')), Outside.of_below hb1 _⟩
   show rows.take i0 = _
   rw [List.take_add_one, List.getElem?_eq_getElem hi0, List.filter_append]
   have h1 : (rows.take i0).filter (!·.gone) = rows.take i0 := List.filter_eq_self.2 fun x hx => by
    obtain ⟨j, hj⟩ := List.getElem?_of_mem hx
    rw [List.getElem?_take] at hj
    split at hj
    ·
     rename_i hlt
     have := HB.out j hlt
     rw [(List.getElem?_eq_some_iff.1 hj).2] at this
     simpa using this
    ·
     cases hj
   rw [h1]
   have := HG.out
   simp [this]
  case round =>
   obtain ⟨x, y, cur, rfl, rfl, hxy, hy, hcl, HT, HD, HC, ho⟩ := hrel
   have hsz := ho.size
   by_cases hlt : y < rows.length
   ·
    obtain ⟨p, hp⟩ : ∃ p, rows[y]? = some p := ⟨rows[y], by simp [hlt]⟩
    have hcp : cur[y]? = some p := (HD.out y (Nat.le_refl _)).trans hp
    obtain ⟨q, hq⟩ : ∃ q, cur[x]? = some q := ⟨cur[x], by rw [List.getElem?_eq_getElem]⟩
    obtain ⟨d0, d1, d2, d3, d4, d5, d6⟩ := rowFacts HC.out hcp
    have HP := Lib.hid hp
    have HQ := Lib.hid hq
    clear hp hcp hq
    have hgr := HC.out.lt g rfl
    go_wp2_with fail
    refine (gone_ok _ p).mono ?_
    rintro e w' ⟨rfl, hb'⟩
    have hkb : ∀ b, b < wr.heap.size → w'.heap[b]? = wr.heap[b]? := fun b hb => (hb'.block b (by simp; omega)).trans (Below.heap_alloc _ _ _ hb)
    have HC' := Lib.hid (HC.out.of_block (w' := w') (fun g' hg' => hkb g' (HC.out.lt g' hg')))
    have ho' : Outside [g] w w' := (ho.alloc _).trans (Outside.of_below hb' [g]) (Grow.refl _ _)
    have hg1 : w'.heap.size ≥ wr.heap.size + 1 := by have := hb'.size; simpa using this
    have hcell : w'.cell? ⟨wr.heap.size, 0, none⟩ = some (.int .i64 p.k.kind) ∧ w'.cell? ⟨wr.heap.size, 1, none⟩ = some (.int .i64 p.k.n) ∧ w'.cell? ⟨wr.heap.size, 2, none⟩ = some (.string p.k.s) ∧ w'.cell? ⟨wr.heap.size, 3, none⟩ = some (.int .i64 p.x.kind) ∧ w'.cell? ⟨wr.heap.size, 4, none⟩ = some (.int .i64 p.x.n) ∧ w'.cell? ⟨wr.heap.size, 5, none⟩ = some (.string p.x.s) ∧ w'.cell? ⟨wr.heap.size, 6, none⟩ = some (.bool p.gone) := by
     have hh := (hb'.block wr.heap.size (by simp)).trans (heapAllocNew wr _)
     exact ⟨cellAt hh 0 rfl, cellAt hh 1 rfl, cellAt hh 2 rfl, cellAt hh 3 rfl, cellAt hh 4 rfl, cellAt hh 5 rfl, cellAt hh 6 rfl⟩
    obtain ⟨b0, b1, b2, b3, b4, b5, b6⟩ := hcell
    obtain ⟨q0, q1, q2, q3, q4, q5, q6⟩ := rowFacts HC'.out HQ.out
    have hfr : ∀ i, w'.frozen? ⟨g, i, none⟩ = false := fun i => HC'.out.frozen rfl i
    have hne : g ≠ wr.heap.size := by omega
    clear hkb d0 d1 d2 d3 d4 d5 d6
    have HO := Lib.hid ho'
    clear ho'
    cases hg : p.gone with
    | true =>
     rw [hg] at b6
     go_wp2_with fail
     go_roundw
     case rel =>
      ((repeat apply Exists.intro); refine And.intro ?_ rfl)
      refine ⟨x, y + 1, cur, rfl, rfl, by omega, by omega, hcl, ?_, fun t ht => HD.out t (by omega), HC', HO.out⟩
      show cur.take x = _
      rw [List.take_add_one, HP.out, List.filter_append, ← HT.out]
      simp [hg]
     case measure => simp [intOf]; omega
    | false =>
     rw [hg] at b6
     go_wp2_with fail
     go_roundw
     case rel =>
      ((repeat apply Exists.intro); refine And.intro ?_ rfl)
      have hxl : x < cur.length := by omega
      refine ⟨x + 1, y + 1, cur.set x p, rfl, rfl, by omega, by omega, by rw [List.length_set]; exact hcl, ?_, fun t ht => ?_, ?_, ?_⟩
      ·
       show (cur.set x p).take (x + 1) = _
       have t1 : rows.take (y + 1) = rows.take y ++ [p] := by rw [List.take_add_one, HP.out]; rfl
       have t2 : [p].filter (!·.gone) = [p] := by simp [hg]
       rw [t1, List.filter_append, ← HT.out, t2, List.take_add_one, List.take_set_of_le (Nat.le_refl _), List.getElem?_set_self hxl]; rfl
      ·
       show (cur.set x p)[t]? = _
       rw [List.getElem?_set_ne (by omega)]; exact HD.out t (by omega)
      ·
       have := HC'.out.putAt rowCells_len hxl (a' := p)
       rw [List.length_set]
       simp only [rowCells, hg] at this
       exact this
      ·
       exact Outside.setCells (F := [g]) (.inl (by simp)) [_, _, _, _, _, _, _] (x * 7) HO.out
     case measure => simp [intOf]; omega
   ·
    have : y = rows.length := by omega
    subst this
    have hgr := HC.out.lt g rfl
    have hce : ∀ j, j < (rows.length - x) * 7 → ∃ v, wr.cell? ⟨g, x * 7 + j, none⟩ = some v := fun j hj => by
     rcases HC.out.2 with ⟨h1, _⟩ | ⟨g', cap, arr, h1, h0, hg, h2, h3, h4, h5⟩
     ·
      cases h1
     ·
      cases h1
      exact ⟨_, cellAt hg _ (Array.getElem?_eq_getElem (by omega))⟩
    obtain ⟨vs, hrun, hvl⟩ : ∃ vs, (∀ ty, (Builtin.clear_ #[192] ty #[.slice (some ⟨g, x * 7, none⟩) (rows.length - x) (c - x)]).run Tryz.prog wr = .ok (.tuple #[]) (wr.setCells g (x * 7) vs)) ∧ True := by
     obtain ⟨vs, h1, _⟩ := run_clear_row (P := Tryz.prog) wr 192 199 0 _ Tryz.underlying192 Tryz.zeroValue199 (by decide) g (x * 7) (rows.length - x) (c - x) (by omega) (fun j hj => by obtain ⟨v, hv⟩ := hce j hj; rw [hv]; rfl) (fun j hj => HC.out.frozen rfl _)
     exact ⟨vs, fun ty => h1, trivial⟩
    clear hce
    go_wp2_with fail
    go_returns
    have e1 : rows.filter (!·.gone) = cur.take x := by
     have := HT.out; rw [List.take_length] at this; exact this.symm
    have e2 : (cur.take x).length = x := by rw [List.length_take]; omega
    rw [e1, e2]
    refine ⟨rfl, ?_, Outside.setCells (.inl (by simp)) vs _ ho⟩
    have h9 := HC.out.take rowCells_len (x := x) (by omega)
    have h10 : slIs wr 199 7 rowCells (.slice (some ⟨g, 0, none⟩) (cur.take x).length c) (cur.take x) := by rw [e2]; exact h9
    have h11 := h10.setBeyond rowCells_len (o := x * 7) (by rw [e2]; exact Nat.le_refl _) vs
    rw [e2] at h11; exact h11
end Go.Proofs.YtijlebhoapdfnaaGreat
/- Dicts: pack. -/
namespace Go.Proofs.YtijlebhoapdfnaaGreat
set_option linter.unusedSimpArgs false
open Go.RowKit
set_option linter.unusedVariables false
theorem putL_length {K X : Type} [DecidableEq K] {l : List (K × X)} {k : K} {x0 : X} (x : X) (h : getL l k = some x0) : (putL l k x).length = l.length := by rw [putL_some x h]; simp
theorem live_filter (rows : List Row) : liveRows rows = (rows.filter (!·.gone)).map fun p => (p.k, p.x) := by
 induction rows with
 | nil => rfl
 | cons p r ih =>
  cases hg : p.gone with
  | true => rw [List.filter_cons_of_neg (by simp [hg]), ← ih]; simp [liveRows, Row.live, hg]
  | false => rw [List.filter_cons_of_pos (by simp [hg]), List.map_cons, ← ih]; simp [liveRows, Row.live, hg]
theorem nodup_at {α β : Type} {f : α → β} {l : List α} (h : (l.map f).Nodup) {i j : Nat} {a b : α} (hi : l[i]? = some a) (hj : l[j]? = some b) (e : f a = f b) : i = j := by
 have h1 : (l.map f)[i]? = some (f a) := by simp [hi]
 have h2 : (l.map f)[j]? = some (f a) := by simp [hj, e]
 have l1 := (List.getElem?_eq_some_iff.1 h1).1
 have l2 := (List.getElem?_eq_some_iff.1 h2).1
 refine (List.getElem_inj (h₀ := l1) (h₁ := l2) h).1 ?_
 rw [(List.getElem?_eq_some_iff.1 h1).2, (List.getElem?_eq_some_iff.1 h2).2]
theorem dict_pack (w : World) (d m g c : Nat) (rows : List Row) (tb : List (V × Nat)) (hd : w.heap[d]? = some (.cells #[.map (some m), .slice (some ⟨g, 0, none⟩) rows.length c] 194)) (hm : mapIs w Tryz.prog 24 ekV exN m tb) (hr : slIs w 199 7 rowCells (.slice (some ⟨g, 0, none⟩) rows.length c) rows)
  (hn : ((liveRows rows).map (·.1)).Nodup) (hat : ∀ k i, getL tb k = some i ↔ ∃ x, rows[i]? = some ⟨k, x, false⟩) (hlen : rows.length ≤ 281474976710656) (hdg : d ≠ g) :
  Calls Tryz.prog 175 #[.pointer (some ⟨d, 0, none⟩)] w fun e w' => (∃ v, e = .returned v) ∧ ∃ tb', w'.heap[d]? = some (.cells #[.map (some m), .slice (some ⟨g, 0, none⟩) (rows.filter (!·.gone)).length c] 194) ∧ mapIs w' Tryz.prog 24 ekV exN m tb' ∧
   slIs w' 199 7 rowCells (.slice (some ⟨g, 0, none⟩) (rows.filter (!·.gone)).length c) (rows.filter (!·.gone)) ∧ (∀ k i, getL tb' k = some i ↔ ∃ x, (rows.filter (!·.gone))[i]? = some ⟨k, x, false⟩) ∧ tb'.length = tb.length ∧ Outside [d, m, g] w w' := by
 have c0 := cellAt hd 0 (v := .map (some m)) rfl
 have c1 := cellAt hd 1 (v := .slice (some ⟨g, 0, none⟩) rows.length c) rfl
 have f1 := frozenAt hd 1
 have HD := Lib.hid hd
 have HM := Lib.hid hm
 have HR := Lib.hid hr
 have HN := Lib.hid hn
 have HA := Lib.hid hat
 have dlt := blockLt hd
 have glt := hr.lt g rfl
 have hmd : d ≠ m := hm.ne_cell c0
 have hcap : rows.length ≤ c := by rcases hr.shape with ⟨h1, h2⟩ | ⟨g', cap, h1, h2, _⟩; cases h1; cases h1; exact h2
 clear hd hm hr hn hat
 go_enter Tryz.func175, Tryz.ntmps175
 go_wp2_with fail
 refine (delete_gone _ g c rows HR.out hlen).mono ?_
 rintro e w1 ⟨rfl, hr1, ho1⟩
 obtain ⟨rs, hrs⟩ : ∃ rs, rows.filter (!·.gone) = rs := ⟨_, rfl⟩
 rw [hrs] at hr1 ⊢
 have HRS := Lib.hid hrs
 have HR1 := Lib.hid hr1
 have hd1 := (ho1.block d dlt (by simpa using hdg)).trans HD.out
 have c1' := cellAt hd1 1 (v := .slice (some ⟨g, 0, none⟩) rows.length c) rfl
 have c0' := cellAt hd1 0 (v := .map (some m)) rfl
 have f1' := frozenAt hd1 1
 have hsz1 := ho1.size
 clear hrs hr1
 go_wp2_with fail
 obtain ⟨W2, hW2⟩ : ∃ W2, w1.setCell ⟨d, 1, none⟩ (.slice (some ⟨g, 0, none⟩) rs.length c) = W2 := ⟨_, rfl⟩
 rw [hW2]
 have hd2 : W2.heap[d]? = some (.cells #[.map (some m), .slice (some ⟨g, 0, none⟩) rs.length c] 194) := by rw [← hW2]; exact heap_setCell_same hd1 1 _
 have hne2 : ∀ b, b ≠ d → W2.heap[b]? = w1.heap[b]? := fun b hb => by rw [← hW2]; exact Below.heap_setCell _ _ _ _ hb
 have hm2 : mapIs W2 Tryz.prog 24 ekV exN m tb := HM.out.of_block ((hne2 m (fun h => hmd h.symm)).trans (ho1.block m HM.out.lt (fun h => by
  simp at h; subst h
  obtain ⟨es, clock, hb, _⟩ := HM.out
  rcases HR.out.2 with ⟨h1, _⟩ | ⟨g', cap, cur, h1, _, hg, _⟩
  ·
   cases h1
  ·
   cases h1; rw [hb] at hg; cases hg)))
 have hr2 : slIs W2 199 7 rowCells (.slice (some ⟨g, 0, none⟩) rs.length c) rs := HR1.out.of_block (fun g' hg' => by cases hg'; exact hne2 g (fun h => hdg h.symm))
 have ho2 : Outside [d, m, g] w W2 := by rw [← hW2]; exact (ho1.mono (by simp)).setCell (.inl (by simp)) _
 have hnd : (rs.map (·.k)).Nodup := by
  have := HN.out
  rw [live_filter, HRS.out, List.map_map] at this
  exact this
 have c20 := cellAt hd2 0 (v := .map (some m)) rfl
 have HR2 := Lib.hid hr2
 have HM2 := Lib.hid hm2
 have HN2 := Lib.hid hnd
 have HD2 := Lib.hid hd2
 have hrcap : rs.length ≤ c := by rcases hr2.shape with ⟨h1, h2⟩ | ⟨g', cap, h1, h2, _⟩; cases h1; cases h1; exact h2
 have hrl : rs.length ≤ 281474976710656 := by
  have := HRS.out; subst this; exact Nat.le_trans (List.length_filter_le _ _) hlen
 have hsz2 : w1.heap.size ≤ W2.heap.size := by rw [← hW2]; simp
 have hrs_live : Hid (∀ (i : Nat) (p : Row), rs[i]? = some p → p.gone = false) := fun i p hp => by
  have := List.mem_of_getElem? hp
  rw [← HRS.out] at this
  simpa using (List.mem_filter.1 this).2
 clear hW2 hd1 c1' c0' f1' hd2 hne2 hm2 hr2 hnd
 go_loopw [17] (fun i wr => ∃ (k : Nat) (tk : List (V × Nat)), k ≤ rs.length ∧ i = .int .i64 k ∧ Hid (mapIs wr Tryz.prog 24 ekV exN m tk) ∧ Hid ((∀ i p, i < k → rs[i]? = some p → getL tk p.k = some i) ∧ (∀ v, (∀ i p, i < k → rs[i]? = some p → p.k ≠ v) → getL tk v = getL tb v) ∧ tk.length = tb.length) ∧ Outside [m] W2 wr) (fun i _ => rs.length - (intOf i).toNat)
 case atStart => exact ⟨0, tb, by omega, rfl, HM2.out, ⟨fun i p h => absurd h (by omega), fun _ _ => rfl, rfl⟩, Outside.refl _ _⟩
 case round =>
  obtain ⟨k, tk, hk, rfl, HMr, HF, ho⟩ := hrel
  have hszr := ho.size
  by_cases hlt : k < rs.length
  ·
   obtain ⟨p, hp⟩ : ∃ p, rs[k]? = some p := ⟨rs[k], by simp [hlt]⟩
   have c0r := ho.cell c20 (by simpa using hmd)
   obtain ⟨d0, d1, d2, d3, d4, d5, d6⟩ := rowFacts HR2.out hp
   have hgm : g ≠ m := HM2.out.ne_cell d0
   have d0 := ho.cell d0 (by simpa using hgm)
   have d1 := ho.cell d1 (by simpa using hgm)
   have d2 := ho.cell d2 (by simpa using hgm)
   have d3 := ho.cell d3 (by simpa using hgm)
   have d4 := ho.cell d4 (by simpa using hgm)
   have d5 := ho.cell d5 (by simpa using hgm)
   have d6 := ho.cell d6 (by simpa using hgm)
   have hmlt := HMr.out.lt
   have hdlt := World.block_lt_of_cell? wr _ c0r
   have HP := Lib.hid hp
   clear hp
   obtain ⟨kl, hkl⟩ := keyOfV p.k
   have hup : ∀ o, ∃ w', (Instr.mapUpdate 191 (.map (some m)) (.agg #[.int .i64 p.k.kind, .int .i64 p.k.n, .string p.k.s]) (.int .i64 k)).run Tryz.prog (wr.alloc o).drew = .ok () w' ∧ mapIs w' Tryz.prog 24 ekV exN m (putL tk p.k k) ∧ onlyAt (wr.alloc o).drew w' m := fun o =>
    ((HMr.out.alloc o).drewN 1).update ekV_inj keyV Tryz.underlying191 hkl k
   obtain ⟨f, hf⟩ : ∃ f : Obj → World, ∀ o, (Instr.mapUpdate 191 (.map (some m)) (.agg #[.int .i64 p.k.kind, .int .i64 p.k.n, .string p.k.s]) (.int .i64 k)).run Tryz.prog (wr.alloc o).drew = .ok () (f o) ∧ mapIs (f o) Tryz.prog 24 ekV exN m (putL tk p.k k) ∧ onlyAt (wr.alloc o).drew (f o) m :=
    ⟨fun o => (hup o).choose, fun o => (hup o).choose_spec⟩
   have hrun := fun o => (hf o).1
   have HFF := Lib.hid hf
   clear hup hkl hf
   go_wp2
   go_region
   go_wp2
   go_roundw
   case rel =>
    obtain ⟨F1, F2, F3⟩ := HF.out
    obtain ⟨_, f1, f2⟩ := HFF.out (.cells (rowCells p).toArray 199)
    have hp := HP.out
    have apart : ∀ (i : Nat) (q : Row), i ≠ k → rs[i]? = some q → q.k ≠ p.k := fun i q hi hq e => hi (nodup_at HN2.out hq hp e)
    refine ⟨k + 1, putL tk p.k k, by omega, rfl, f1, ⟨fun i q hi hq => ?_, fun v hv => ?_, ?_⟩, ?_⟩
    ·
     rw [getL_putL]
     by_cases e : i = k
     ·
      subst e; rw [hp] at hq; cases hq; rw [if_pos rfl]
     ·
      rw [if_neg (apart i q e hq)]; exact F1 i q (by omega) hq
    ·
     rw [getL_putL, if_neg (fun e => hv k p (by omega) hp e.symm)]
     exact F2 v (fun i q hi hq => hv i q (by omega) hq)
    ·
     have h1 : getL tk p.k = getL tb p.k := F2 p.k (fun i q hi hq => apart i q (by omega) hq)
     have hpr : p ∈ rows := by
      have := List.mem_of_getElem? hp
      rw [← HRS.out] at this
      exact (List.mem_filter.1 this).1
     obtain ⟨i, hi⟩ := List.getElem?_of_mem hpr
     have hg := hrs_live.out k p hp
     have h2 : getL tb p.k = some i := (HA.out p.k i).2 ⟨p.x, by rw [hi]; cases p; simp at hg; subst hg; rfl⟩
     rw [putL_length _ (h1.trans h2)]; exact F3
    ·
     exact ((ho.alloc _).drew).grown f2.2 (fun b hb => by simp at hb; subst hb; exact .inl (by simp))
   case measure => simp [intOf]; omega
  ·
   have : k = rs.length := by omega
   subst this
   go_wp2
   go_returns
   obtain ⟨F1, F2, F3⟩ := HF.out
   have hgm : g ≠ m := fun h => by
    subst h
    obtain ⟨es, clock, hb, _⟩ := HM2.out
    rcases HR2.out.2 with ⟨h1, _⟩ | ⟨g', cap, cur, h1, _, hg, _⟩
    ·
     cases h1
    ·
     cases h1; rw [hb] at hg; cases hg
   rw [HRS.out]
   refine ⟨⟨_, rfl⟩, tk, ?_, HMr.out, ?_, fun v i => ⟨fun h => ?_, fun ⟨x, hx⟩ => F1 i _ (List.getElem?_eq_some_iff.1 hx).1 hx⟩, F3, ?_⟩
   ·
    exact (ho.block d (by omega) (by simpa using hmd)).trans HD2.out
   ·
    exact HR2.out.of_block (fun g' hg' => by cases hg'; exact ho.block g (by omega) (by simpa using hgm))
   ·
    by_cases he : ∃ (j : Nat) (p : Row), rs[j]? = some p ∧ p.k = v
    ·
     obtain ⟨j, p, hp, rfl⟩ := he
     rw [F1 j p (List.getElem?_eq_some_iff.1 hp).1 hp] at h
     cases h
     have hg := hrs_live.out _ p hp
     exact ⟨p.x, by rw [hp]; cases p; simp at hg; subst hg; rfl⟩
    ·
     rw [F2 v (fun j p _ hp e => he ⟨j, p, hp, e⟩)] at h
     obtain ⟨x, hx⟩ := (HA.out v i).1 h
     have : (⟨v, x, false⟩ : Row) ∈ rs := by rw [← HRS.out]; exact List.mem_filter.2 ⟨List.mem_of_getElem? hx, rfl⟩
     obtain ⟨j, hj⟩ := List.getElem?_of_mem this
     exact absurd ⟨j, _, hj, rfl⟩ he
   ·
    exact ho2.trans ho (fun b hb => .inl (by simp at hb; subst hb; simp))
end Go.Proofs.YtijlebhoapdfnaaGreat
