/- Dicts: pack. -/
import Derived.Test.YtoancpjlkhijiaaDict2
namespace Go.Proofs.Ytoancpjlkhijiaa
open Go.RowKit
set_option linter.unusedVariables false
theorem putL_length {K X : Type} [DecidableEq K] {l : List (K × X)} {k : K} {x0 : X} (x : X) (h : getL l k = some x0) : (putL l k x).length = l.length := by rw [putL_some x h]; simp
theorem live_filter (rows : List Row) : liveRows rows = (rows.filter (!·.gone)).map fun p => (p.k, p.x) := by
  induction rows with
  | nil => rfl
  | cons p r ih =>
    cases hg : p.gone with
    | true => rw [List.filter_cons_of_neg (by simp [hg]), ← ih]; simp [liveRows, Row.live, hg]
    | false => rw [List.filter_cons_of_pos (by simp [hg]), List.map_cons, ← ih]; simp [liveRows, Row.live, hg]
theorem nodup_at {α β : Type} {f : α → β} {l : List α} (h : (l.map f).Nodup) {i j : Nat} {a b : α} (hi : l[i]? = some a) (hj : l[j]? = some b) (e : f a = f b) : i = j := by
  have h1 : (l.map f)[i]? = some (f a) := by simp [hi]
  have h2 : (l.map f)[j]? = some (f a) := by simp [hj, e]
  have l1 := (List.getElem?_eq_some_iff.1 h1).1
  have l2 := (List.getElem?_eq_some_iff.1 h2).1
  refine (List.getElem_inj (h₀ := l1) (h₁ := l2) h).1 ?_
  rw [(List.getElem?_eq_some_iff.1 h1).2, (List.getElem?_eq_some_iff.1 h2).2]
theorem dict_pack (w : World) (d m g c : Nat) (rows : List Row) (tb : List (V × Nat)) (hd : w.heap[d]? = some (.cells #[.map (some m), .slice (some ⟨g, 0, none⟩) rows.length c] 122)) (hm : mapIs w Try.prog 26 ekV exN m tb) (hr : slIs w 124 7 rowCells (.slice (some ⟨g, 0, none⟩) rows.length c) rows)
    (hn : ((liveRows rows).map (·.1)).Nodup) (hat : ∀ k i, getL tb k = some i ↔ ∃ x, rows[i]? = some ⟨k, x, false⟩) (hlen : rows.length ≤ 281474976710656) (hdg : d ≠ g) :
    Calls Try.prog 91 #[.pointer (some ⟨d, 0, none⟩)] w fun e w' => (∃ v, e = .returned v) ∧ ∃ tb', w'.heap[d]? = some (.cells #[.map (some m), .slice (some ⟨g, 0, none⟩) (rows.filter (!·.gone)).length c] 122) ∧ mapIs w' Try.prog 26 ekV exN m tb' ∧
      slIs w' 124 7 rowCells (.slice (some ⟨g, 0, none⟩) (rows.filter (!·.gone)).length c) (rows.filter (!·.gone)) ∧ (∀ k i, getL tb' k = some i ↔ ∃ x, (rows.filter (!·.gone))[i]? = some ⟨k, x, false⟩) ∧ tb'.length = tb.length ∧ Outside [d, m, g] w w' := by
  have c0 := cellAt hd 0 (v := .map (some m)) rfl
  have c1 := cellAt hd 1 (v := .slice (some ⟨g, 0, none⟩) rows.length c) rfl
  have f1 := frozenAt hd 1
  have HD := Lib.hid hd
  have HM := Lib.hid hm
  have HR := Lib.hid hr
  have HN := Lib.hid hn
  have HA := Lib.hid hat
  have dlt := blockLt hd
  have glt := hr.lt g rfl
  have hmd : d ≠ m := hm.ne_cell c0
  have hcap : rows.length ≤ c := by rcases hr.shape with ⟨h1, h2⟩ | ⟨g', cap, h1, h2, _⟩; cases h1; cases h1; exact h2
  clear hd hm hr hn hat
  go_enter Try.func91, Try.ntmps91
  go_wp2_with fail
  refine (delete_gone _ g c rows HR.out hlen).mono ?_
  rintro e w1 ⟨rfl, hr1, ho1⟩
  obtain ⟨rs, hrs⟩ : ∃ rs, rows.filter (!·.gone) = rs := ⟨_, rfl⟩
  rw [hrs] at hr1 ⊢
  have HRS := Lib.hid hrs
  have HR1 := Lib.hid hr1
  have hd1 := (ho1.block d dlt (by simpa using hdg)).trans HD.out
  have c1' := cellAt hd1 1 (v := .slice (some ⟨g, 0, none⟩) rows.length c) rfl
  have c0' := cellAt hd1 0 (v := .map (some m)) rfl
  have f1' := frozenAt hd1 1
  have hsz1 := ho1.size
  clear hrs hr1
  go_wp2_with fail
  obtain ⟨W2, hW2⟩ : ∃ W2, w1.setCell ⟨d, 1, none⟩ (.slice (some ⟨g, 0, none⟩) rs.length c) = W2 := ⟨_, rfl⟩
  rw [hW2]
  have hd2 : W2.heap[d]? = some (.cells #[.map (some m), .slice (some ⟨g, 0, none⟩) rs.length c] 122) := by rw [← hW2]; exact heap_setCell_same hd1 1 _
  have hne2 : ∀ b, b ≠ d → W2.heap[b]? = w1.heap[b]? := fun b hb => by rw [← hW2]; exact Below.heap_setCell _ _ _ _ hb
  have hm2 : mapIs W2 Try.prog 26 ekV exN m tb := HM.out.of_block ((hne2 m (fun h => hmd h.symm)).trans (ho1.block m HM.out.lt (fun h => by
    simp at h; subst h
    obtain ⟨es, clock, hb, _⟩ := HM.out
    rcases HR.out.2 with ⟨h1, _⟩ | ⟨g', cap, cur, h1, _, hg, _⟩
    · cases h1
    · cases h1; rw [hb] at hg; cases hg)))
  have hr2 : slIs W2 124 7 rowCells (.slice (some ⟨g, 0, none⟩) rs.length c) rs := HR1.out.of_block (fun g' hg' => by cases hg'; exact hne2 g (fun h => hdg h.symm))
  have ho2 : Outside [d, m, g] w W2 := by rw [← hW2]; exact (ho1.mono (by simp)).setCell (.inl (by simp)) _
  have hnd : (rs.map (·.k)).Nodup := by
    have := HN.out
    rw [live_filter, HRS.out, List.map_map] at this
    exact this
  have c20 := cellAt hd2 0 (v := .map (some m)) rfl
  have HR2 := Lib.hid hr2
  have HM2 := Lib.hid hm2
  have HN2 := Lib.hid hnd
  have HD2 := Lib.hid hd2
  have hrcap : rs.length ≤ c := by rcases hr2.shape with ⟨h1, h2⟩ | ⟨g', cap, h1, h2, _⟩; cases h1; cases h1; exact h2
  have hrl : rs.length ≤ 281474976710656 := by
    have := HRS.out; subst this; exact Nat.le_trans (List.length_filter_le _ _) hlen
  have hsz2 : w1.heap.size ≤ W2.heap.size := by rw [← hW2]; simp
  have hrs_live : Hid (∀ (i : Nat) (p : Row), rs[i]? = some p → p.gone = false) := fun i p hp => by
    have := List.mem_of_getElem? hp
    rw [← HRS.out] at this
    simpa using (List.mem_filter.1 this).2
  clear hW2 hd1 c1' c0' f1' hd2 hne2 hm2 hr2 hnd
  go_loopw [17] (fun i wr => ∃ (k : Nat) (tk : List (V × Nat)), k ≤ rs.length ∧ i = .int .i64 k ∧ Hid (mapIs wr Try.prog 26 ekV exN m tk) ∧ Hid ((∀ i p, i < k → rs[i]? = some p → getL tk p.k = some i) ∧ (∀ v, (∀ i p, i < k → rs[i]? = some p → p.k ≠ v) → getL tk v = getL tb v) ∧ tk.length = tb.length) ∧ Outside [m] W2 wr) (fun i _ => rs.length - (intOf i).toNat)
  case atStart => exact ⟨0, tb, by omega, rfl, HM2.out, ⟨fun i p h => absurd h (by omega), fun _ _ => rfl, rfl⟩, Outside.refl _ _⟩
  case round =>
    obtain ⟨k, tk, hk, rfl, HMr, HF, ho⟩ := hrel
    have hszr := ho.size
    by_cases hlt : k < rs.length
    · obtain ⟨p, hp⟩ : ∃ p, rs[k]? = some p := ⟨rs[k], by simp [hlt]⟩
      have c0r := ho.cell c20 (by simpa using hmd)
      obtain ⟨d0, d1, d2, d3, d4, d5, d6⟩ := rowFacts HR2.out hp
      have hgm : g ≠ m := HM2.out.ne_cell d0
      have d0 := ho.cell d0 (by simpa using hgm)
      have d1 := ho.cell d1 (by simpa using hgm)
      have d2 := ho.cell d2 (by simpa using hgm)
      have d3 := ho.cell d3 (by simpa using hgm)
      have d4 := ho.cell d4 (by simpa using hgm)
      have d5 := ho.cell d5 (by simpa using hgm)
      have d6 := ho.cell d6 (by simpa using hgm)
      have hmlt := HMr.out.lt
      have hdlt := World.block_lt_of_cell? wr _ c0r
      have HP := Lib.hid hp
      clear hp
      obtain ⟨kl, hkl⟩ := keyOfV p.k
      have hup : ∀ o, ∃ w', (Instr.mapUpdate 119 (.map (some m)) (.agg #[.int .i64 p.k.kind, .int .i64 p.k.n, .string p.k.s]) (.int .i64 k)).run Try.prog (wr.alloc o).drew = .ok () w' ∧ mapIs w' Try.prog 26 ekV exN m (putL tk p.k k) ∧ onlyAt (wr.alloc o).drew w' m := fun o =>
        ((HMr.out.alloc o).drewN 1).update ekV_inj keyV Try.underlying119 hkl k
      obtain ⟨f, hf⟩ : ∃ f : Obj → World, ∀ o, (Instr.mapUpdate 119 (.map (some m)) (.agg #[.int .i64 p.k.kind, .int .i64 p.k.n, .string p.k.s]) (.int .i64 k)).run Try.prog (wr.alloc o).drew = .ok () (f o) ∧ mapIs (f o) Try.prog 26 ekV exN m (putL tk p.k k) ∧ onlyAt (wr.alloc o).drew (f o) m :=
        ⟨fun o => (hup o).choose, fun o => (hup o).choose_spec⟩
      have hrun := fun o => (hf o).1
      have HFF := Lib.hid hf
      clear hup hkl hf
      go_wp2
      go_region
      go_wp2
      go_roundw
      case rel =>
        obtain ⟨F1, F2, F3⟩ := HF.out
        obtain ⟨_, f1, f2⟩ := HFF.out (.cells (rowCells p).toArray 124)
        have hp := HP.out
        have apart : ∀ (i : Nat) (q : Row), i ≠ k → rs[i]? = some q → q.k ≠ p.k := fun i q hi hq e => hi (nodup_at HN2.out hq hp e)
        refine ⟨k + 1, putL tk p.k k, by omega, rfl, f1, ⟨fun i q hi hq => ?_, fun v hv => ?_, ?_⟩, ?_⟩
        · rw [getL_putL]
          by_cases e : i = k
          · subst e; rw [hp] at hq; cases hq; rw [if_pos rfl]
          · rw [if_neg (apart i q e hq)]; exact F1 i q (by omega) hq
        · rw [getL_putL, if_neg (fun e => hv k p (by omega) hp e.symm)]
          exact F2 v (fun i q hi hq => hv i q (by omega) hq)
        · have h1 : getL tk p.k = getL tb p.k := F2 p.k (fun i q hi hq => apart i q (by omega) hq)
          have hpr : p ∈ rows := by
            have := List.mem_of_getElem? hp
            rw [← HRS.out] at this
            exact (List.mem_filter.1 this).1
          obtain ⟨i, hi⟩ := List.getElem?_of_mem hpr
          have hg := hrs_live.out k p hp
          have h2 : getL tb p.k = some i := (HA.out p.k i).2 ⟨p.x, by rw [hi]; cases p; simp at hg; subst hg; rfl⟩
          rw [putL_length _ (h1.trans h2)]; exact F3
        · exact ((ho.alloc _).drew).grown f2.2 (fun b hb => by simp at hb; subst hb; exact .inl (by simp))
      case measure => simp [intOf]; omega
    · have : k = rs.length := by omega
      subst this
      go_wp2
      go_returns
      obtain ⟨F1, F2, F3⟩ := HF.out
      have hgm : g ≠ m := fun h => by
        subst h
        obtain ⟨es, clock, hb, _⟩ := HM2.out
        rcases HR2.out.2 with ⟨h1, _⟩ | ⟨g', cap, cur, h1, _, hg, _⟩
        · cases h1
        · cases h1; rw [hb] at hg; cases hg
      rw [HRS.out]
      refine ⟨⟨_, rfl⟩, tk, ?_, HMr.out, ?_, fun v i => ⟨fun h => ?_, fun ⟨x, hx⟩ => F1 i _ (List.getElem?_eq_some_iff.1 hx).1 hx⟩, F3, ?_⟩
      · exact (ho.block d (by omega) (by simpa using hmd)).trans HD2.out
      · exact HR2.out.of_block (fun g' hg' => by cases hg'; exact ho.block g (by omega) (by simpa using hgm))
      · by_cases he : ∃ (j : Nat) (p : Row), rs[j]? = some p ∧ p.k = v
        · obtain ⟨j, p, hp, rfl⟩ := he
          rw [F1 j p (List.getElem?_eq_some_iff.1 hp).1 hp] at h
          cases h
          have hg := hrs_live.out _ p hp
          exact ⟨p.x, by rw [hp]; cases p; simp at hg; subst hg; rfl⟩
        · rw [F2 v (fun j p _ hp e => he ⟨j, p, hp, e⟩)] at h
          obtain ⟨x, hx⟩ := (HA.out v i).1 h
          have : (⟨v, x, false⟩ : Row) ∈ rs := by rw [← HRS.out]; exact List.mem_filter.2 ⟨List.mem_of_getElem? hx, rfl⟩
          obtain ⟨j, hj⟩ := List.getElem?_of_mem this
          exact absurd ⟨j, _, hj, rfl⟩ he
      · exact ho2.trans ho (fun b hb => .inl (by simp at hb; subst hb; simp))
end Go.Proofs.Ytoancpjlkhijiaa
