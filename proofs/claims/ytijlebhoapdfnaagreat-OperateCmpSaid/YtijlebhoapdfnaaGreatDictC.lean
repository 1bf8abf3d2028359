import Derived.Test.YtijlebhoapdfnaaGreatDictB
/- Dicts: Del. -/
namespace Go.Proofs.YtijlebhoapdfnaaGreat
set_option linter.unusedSimpArgs false
open Go.RowKit
set_option linter.unusedVariables false
theorem step_delete_is {K X : Type} [DecidableEq K] {P : Program} {kt : TypeId} {ek : K → Value} {ex : X → Value} {b : Nat} {l : List (K × X)} {ops : Array Oper} {o : Oper} {a : Act} {w : World} {Kc : Act → World → Prop} {Q : Exit → Act → World → Prop} {E : Prop} (hg : o.guard = none) (m x : Operand) (t : TypeId)
  (hop : o.op = Op.call { callee := Callee.builtin Builtin.delete, args := #[m, x], argTypes := #[t, kt] }) (et : TypeId) (hinj : ∀ a b, ek a = ek b → a = b) (KL : Maps.Keyed P kt) (ht : P.underlying t = some (.map kt et))
  (hm : a.eval m = .map (some b)) (h : mapIs w P kt ek ex b l) {k : K} (hx : a.eval x = ek k) {kl : Lit} (hkey : keyOf P kt (ek k) = some kl)
  (h1 : ∀ w', mapIs w' P kt ek ex b (delL l k) → onlyAt w w' b → Kc (a.put o.dst (.tuple #[])) w') : if Region.wanted o (yielded ops a.tmps) = true then Oper.wp P o a w Kc Q else E := by
 have hw : Region.wanted o (yielded ops a.tmps) = true := by simp [Region.wanted, hg]
 rw [if_pos hw]
 obtain ⟨w', hrun, r1, r2⟩ := h.drop hinj KL ht hkey o.type
 unfold Oper.wp
 simp [execOp, hop, resolve, hm, hx, invoke, builtin, hrun, Result.andThen]
 exact h1 w' r1 r2
theorem dict_del (w : World) (d : Nat) (L : List (V × V)) (F : List Nat) (k : V) (h : DictIs w d L F) : Calls Tryz.prog 157 #[.pointer (some ⟨d, 0, none⟩), k.val] w fun e w' =>
  e = .returned (.bool (getL L k).isSome) ∧ DictIs w' d (delL L k) F ∧ Outside F w w' := by
 have hD := Lib.hid h
 obtain ⟨m, rv, rows, tb, hd, hm, hr, hL, hn, hat, hlen, rfl, hnd, h4, h5⟩ := h
 have c0 := cellAt hd 0 (v := .map (some m)) rfl
 have dlt := blockLt hd
 have mlt := hm.lt
 obtain ⟨kl, hkl⟩ := keyOfV k
 have hz : ∀ W, (zeroValue 3).run Tryz.prog W = .ok (.int .i64 0) W := fun W => Tryz.zeroValue3 W
 obtain ⟨ra, rcap, rfl⟩ := hr.form
 have c1 := cellAt hd 1 (v := .slice ra rows.length rcap) rfl
 simp only [V.val]
 rcases dict_look hL hn hat k with ⟨g1, g2⟩ | ⟨i, y, g1, g2, g3⟩
 ·
  have hlk : ∀ o, (Instr.lookup 191 (.map (some m)) (.agg #[.int .i64 k.kind, .int .i64 k.n, .string k.s]) true).run Tryz.prog (w.alloc o).drew = .ok (.tuple #[.int .i64 0, .bool false]) (w.alloc o).drew := fun o => by
   have := ((hm.alloc o).drewN 1).look ekV_inj keyV Tryz.underlying191 (hz _) hkl true
   rw [g1] at this; exact this
  have HG := Lib.hid g2
  clear hd hm hr hL hn hat hlen g1 g2 hz hkl hnd h4 h5
  go_enter Tryz.func157, Tryz.ntmps157
  go_wp2
  go_region
  go_wp2
  go_returns
  have hb : Below w.heap.size w (w.alloc (.cells #[.int .i64 k.kind, .int .i64 k.n, .string k.s] 24)).drew := by exact belowA
  rw [HG.out, delL_none HG.out]
  exact ⟨rfl, hD.out.below hb, Outside.of_below hb _⟩
 ·
  have hlk : ∀ o, (Instr.lookup 191 (.map (some m)) (.agg #[.int .i64 k.kind, .int .i64 k.n, .string k.s]) true).run Tryz.prog (w.alloc o).drew = .ok (.tuple #[.int .i64 i, .bool true]) (w.alloc o).drew := fun o => by
   have := ((hm.alloc o).drewN 1).look ekV_inj keyV Tryz.underlying191 (hz _) hkl true
   rw [g1] at this; exact this
  obtain ⟨g, rfl⟩ : ∃ g, ra = some ⟨g, 0, none⟩ := by
   rcases hr.shape with ⟨h1, h2⟩ | ⟨g, cap, h1, _⟩
   ·
    rw [h2] at g3; simp at g3
   ·
    cases h1; exact ⟨g, rfl⟩
  have hil : i < rows.length := (List.getElem?_eq_some_iff.1 g3).1
  have hcap : rows.length ≤ rcap := by rcases hr.shape with ⟨h1, h2⟩ | ⟨g', cap, h1, h2, _⟩; cases h1; cases h1; exact h2
  have glt := hr.lt g rfl
  obtain ⟨d0, d1, d2, d3, d4, d5, d6⟩ := rowFacts hr g3
  have hfr : ∀ j, w.frozen? ⟨g, j, none⟩ = false := fun j => hr.frozen rfl j
  have HG := Lib.hid (And.intro g1 (And.intro g2 g3))
  have HDG : Hid (d ≠ g) := by intro e; subst e; simp [Value.ownBlock] at hnd
  have HM := Lib.hid hm
  have HR := Lib.hid hr
  have goal : ∀ o, ∃ W7 : World, World.alloc (((((((w.setCell ⟨g, i * 7, none⟩ (.int .i64 0)).setCell ⟨g, i * 7 + 1, none⟩ (.int .i64 0)).setCell ⟨g, i * 7 + 2, none⟩ (.string ⟨#[]⟩)).setCell ⟨g, i * 7 + 3, none⟩ (.int .i64 0)).setCell ⟨g, i * 7 + 4, none⟩ (.int .i64 0)).setCell ⟨g, i * 7 + 5, none⟩ (.string ⟨#[]⟩)).setCell ⟨g, i * 7 + 6, none⟩ (.bool true)) o = W7 ∧ (∀ b, b < w.heap.size → b ≠ g → W7.heap[b]? = w.heap[b]?) ∧ W7.heap[w.heap.size]? = some o ∧ mapIs W7 Tryz.prog 24 ekV exN m tb ∧ w.heap.size + 1 = W7.heap.size ∧
    (∀ w', mapIs w' Tryz.prog 24 ekV exN m (delL tb k) → onlyAt W7.drew.drew w' m → DictIs w' d (delL L k) (d :: m :: (Value.ownBlock (.slice (some ⟨g, 0, none⟩) rows.length rcap)).toList) ∧ Outside (d :: m :: (Value.ownBlock (.slice (some ⟨g, 0, none⟩) rows.length rcap)).toList) w w') := by
   intro o
   refine ⟨_, rfl, ?_⟩
   have hp := hr.putAt rowCells_len hil (a' := Row.out)
   have hs7 : w.setCells g (i * 7) (rowCells Row.out) = ((((((w.setCell ⟨g, i * 7, none⟩ (.int .i64 0)).setCell ⟨g, i * 7 + 1, none⟩ (.int .i64 0)).setCell ⟨g, i * 7 + 2, none⟩ (.string ⟨#[]⟩)).setCell ⟨g, i * 7 + 3, none⟩ (.int .i64 0)).setCell ⟨g, i * 7 + 4, none⟩ (.int .i64 0)).setCell ⟨g, i * 7 + 5, none⟩ (.string ⟨#[]⟩)).setCell ⟨g, i * 7 + 6, none⟩ (.bool true) := rfl
   rw [← hs7]
   have ho : Outside [g] w (w.setCells g (i * 7) (rowCells Row.out)) := Outside.setCells (.inl (by simp)) _ _ (Outside.refl _ _)
   have hz7 := size_setCells g (rowCells Row.out) (i * 7) w
   generalize w.setCells g (i * 7) (rowCells Row.out) = W3 at hp ho hz7
   have hdg : d ≠ g := by intro e; subst e; simp [Value.ownBlock] at hnd
   have hdm : d ≠ m := by intro e; subst e; simp at hnd
   have hmg : m ≠ g := by intro e; subst e; simp [Value.ownBlock] at hnd
   have hB : ∀ b, b < w.heap.size → b ≠ g → (W3.alloc o).heap[b]? = w.heap[b]? := fun b hb hne => (Below.heap_alloc _ _ _ (by omega)).trans (ho.block b hb (by simpa using hne))
   refine ⟨hB, by rw [← hz7]; exact heapAllocNew W3 o, hm.of_block (hB m mlt hmg), by simp [hz7], fun w' hm' hw' => ?_⟩
   have hB' : ∀ b, b < w.heap.size → b ≠ g → b ≠ m → w'.heap[b]? = w.heap[b]? := fun b hb h1 h2 => (hw'.2.block b (by show b < (W3.alloc o).heap.size; simp [hz7]; omega) (by simpa using h2)).trans (hB b hb h1)
   refine ⟨⟨m, .slice (some ⟨g, 0, none⟩) rows.length rcap, rows.set i Row.out, delL tb k, (hB' d dlt hdg hdm).trans hd, hm', ?_, ?_, ?_, ?_, ?_, rfl, hnd, ?_, by rw [List.length_set]; exact h5⟩, ?_⟩
   ·
    exact hp.of_block fun g' hg' => by
     cases hg'
     exact (hw'.2.block g (by show g < (W3.alloc o).heap.size; simp [hz7]; omega) (by simpa using (fun e => hmg e.symm))).trans (Below.heap_alloc _ _ _ (by omega))
   ·
    rw [live_out (by rw [hL]; exact hn) g3, hL]
   ·
    exact nodup_delL hn k
   ·
    intro k' j
    rw [getL_delL]
    by_cases e : k' = k
    ·
     subst e
     rw [if_pos rfl]
     constructor
     ·
      intro h; cases h
     ·
      rintro ⟨z, hz⟩
      by_cases e : i = j
      ·
       subst e; rw [List.getElem?_set_self hil] at hz; cases hz
      ·
       rw [List.getElem?_set_ne e] at hz
       have := (hat k' j).2 ⟨z, hz⟩
       rw [g1] at this; cases this; exact absurd rfl e
    ·
     rw [if_neg e, hat]
     by_cases e2 : i = j
     ·
      subst e2
      rw [List.getElem?_set_self hil, g3]
      constructor
      ·
       rintro ⟨z, hz⟩; cases hz; exact absurd rfl e
      ·
       rintro ⟨z, hz⟩; cases hz
     ·
      rw [List.getElem?_set_ne e2]
   ·
    have e1 := delL_length hm.nodup g1
    have e2 := delL_length hn g2
    omega
   ·
    have e2 := delL_length hn g2
    omega
   ·
    have o1 : Outside (d :: m :: (Value.ownBlock (.slice (some ⟨g, 0, none⟩) rows.length rcap)).toList) w (W3.alloc o) := (ho.mono (by simp [Value.ownBlock])).alloc o
    exact o1.drew.drew.grown hw'.2 (fun b hb => by cases hb; exact .inl (by simp))
  have GOAL := Lib.hid goal
  have HK := Lib.hid hkl
  have hgm : g ≠ m := HM.out.ne_cell d0
  clear goal hd hm hr hL hn hat hlen g1 g2 g3 hz hkl hnd h4 h5
  go_enter Tryz.func157, Tryz.ntmps157
  go_wp2
  go_region
  go_wp2
  obtain ⟨W7, hW, hB, hbox, hm7, hsz, hfin⟩ := GOAL.out (.cells #[.int .i64 k.kind, .int .i64 k.n, .string k.s] 24)
  rw [hW]
  have hdg := HDG.out
  have hd7 : W7.heap[d]? = w.heap[d]? := hB d dlt hdg
  have v0 : W7.cell? ⟨d, 0, none⟩ = some (.map (some m)) := (World.cell?_of_block (w := w) hd7).trans c0
  have k0 := cellAt hbox 0 (v := .int .i64 k.kind) rfl
  have k1 := cellAt hbox 1 (v := .int .i64 k.n) rfl
  have k2 := cellAt hbox 2 (v := .string k.s) rfl
  have HFIN := Lib.hid hfin
  have HM7 := Lib.hid hm7
  clear hW hB hbox hm7 hfin hd7 hlk d0 d1 d2 d3 d4 d5 d6 hfr c0 c1
  go_region_law (refine step_delete_is (by rfl) _ _ _ (by rfl) 3 ekV_inj keyV Tryz.underlying191 (by rfl) (HM7.out.drewN 2) (k := k) (by rfl) HK.out ?_; intro w' r1 r2)
  all_goals go_wp2
  all_goals go_returns
  all_goals (rw [HG.out.2.1]; exact ⟨rfl, HFIN.out _ (by assumption) (by assumption)⟩)
end Go.Proofs.YtijlebhoapdfnaaGreat
/- Clones of slices. -/
namespace Go.Proofs.YtijlebhoapdfnaaGreat
set_option linter.unusedSimpArgs false
open Go.RowKit
set_option linter.unusedVariables false
theorem V.cells_len (v : V) : v.cells.length = 3 := rfl
theorem clone_rows (w : World) (g c : Nat) (rows : List Row) (h : slIs w 199 7 rowCells (.slice (some ⟨g, 0, none⟩) rows.length c) rows) (hlen : rows.length ≤ 100000) :
  Calls Tryz.prog 220 #[.slice (some ⟨g, 0, none⟩) rows.length c] w fun e w' => ∃ v, e = .returned v ∧ slIs w' 199 7 rowCells v rows ∧ (∀ b, v.ownBlock = some b → w.heap.size ≤ b) ∧ Below w.heap.size w w' := by
 go_enter Tryz.func220, Tryz.ntmps220
 have heq : ∀ W, (binOp .eql 192 (.slice (some ⟨g, 0, none⟩) rows.length c) (.slice none 0 0)).run Tryz.prog W = .ok (.bool false) W := fun W => Lib.run_eql_slice_nil W _ _ _ _ _ _ _ Tryz.underlying192
 obtain ⟨i0, hi, iz0, iz1, iz2⟩ := info_parts info_pair
 have glt := h.lt g rfl
 have hcap : rows.length ≤ c := by rcases h.shape with ⟨h1, h2⟩ | ⟨g', cap, h1, h2, _⟩; cases h1; cases h1; exact h2
 have h0 : (w.alloc (.cells #[] 199)).ownsRow 0 199 7 (.slice (some ⟨w.heap.size, 0, none⟩) 0 0) 0 [] := World.ownsRow_made w #[] 0 (Nat.zero_le _) (Nat.zero_le _) rfl
 go_wp2_with (at_builtin; refine wpList_append_own_at _ rfl _ _ 192 rfl 0 199 i0 _ 7 72 Tryz.underlying192 hi iz0 iz1 iz2 rfl (by decide) _ _ _ rfl h0 ⟨g, 0, none⟩ rows.length c (rows.flatMap rowCells) rfl ?c1 ?c2 ?c3 ?c4 ?c5 ?c6 ?_)
 case c1 => exact flatMap_length rowCells 7 rowCells_len rows
 case c2 => exact (World.ownsRow.alloc h (.cells #[] 199)).cells rfl
 case c3 => intro u hu; obtain ⟨p, _, hp⟩ := List.mem_flatMap.1 hu; simp [rowCells] at hp; rcases hp with rfl | rfl | rfl | rfl | rfl | rfl | rfl <;> rfl
 case c4 => exact Nat.le_trans (show 0 + rows.length ≤ 100000 by omega) (by decide)
 case c5 => omega
 case c6 => exact Nat.zero_le _
 intro v' w1 hown hgr hnil hat
 go_wp2
 go_returns
 have hB : Below w.heap.size w w1 := ((Below.refl w.heap.size w).alloc (Nat.le_refl _) _).grown hgr (by simp) (fun k hk => by simp [Value.ownBlock] at hk; omega)
 refine ⟨v', rfl, ?_, ?_, hB⟩
 ·
  simpa [slIs] using hown
 ·
  intro b hb
  rcases hat with e | e
  ·
   rw [e] at hb; simp [Value.ownBlock] at hb; omega
  ·
   rw [e] at hb; simp at hb; omega
theorem info_val : (Tryz.prog.info? 24).map (fun i => (i.zero, i.size, i.bytes)) = some (some (.agg #[.int .i64 0, .int .i64 0, .string ⟨#[]⟩]), 3, 32) := by kernel_rfl
theorem slIs.sees {w : World} {g c : Nat} {l : List V} (h : slIs w 24 3 V.cells (.slice (some ⟨g, 0, none⟩) l.length c) l) : SeesV w (.slice (some ⟨g, 0, none⟩) l.length c) l := by
 have h2 : l.length ≤ c ∧ c ≤ maxLen := by rcases h.shape with ⟨h1, h2⟩ | ⟨g', cap, h1, h2, h3, _⟩; cases h1; cases h1; exact ⟨h2, h3⟩
 refine ⟨_, _, rfl, h2.1, h2.2, .inr ⟨g, 0, rfl, fun i v hv => ?_⟩⟩
 have a0 := h.cell V.cells_len rfl hv (j := 0) rfl
 have a1 := h.cell V.cells_len rfl hv (j := 1) rfl
 have a2 := h.cell V.cells_len rfl hv (j := 2) rfl
 simp only [Nat.zero_add]
 exact ⟨a0, a1, a2⟩
theorem slIs.sees' {w : World} {rv : Value} {l : List V} (h : slIs w 24 3 V.cells rv l) : SeesV w rv l := by
 rcases h.shape with ⟨rfl, rfl⟩ | ⟨g, cap, rfl, h1, h2, h3⟩
 ·
  exact ⟨none, 0, rfl, by simp, by simp, .inl rfl⟩
 ·
  exact h.sees
theorem SeesV.cells {w : World} {g o : Nat} {l : List V} (h : ∀ i v, l[i]? = some v → w.cell? ⟨g, o + i * 3, none⟩ = some (.int .i64 v.kind) ∧ w.cell? ⟨g, o + i * 3 + 1, none⟩ = some (.int .i64 v.n) ∧ w.cell? ⟨g, o + i * 3 + 2, none⟩ = some (.string v.s)) :
  ∀ j u, (l.flatMap V.cells)[j]? = some u → w.cell? ((⟨g, o, none⟩ : Addr).add j) = some u := by
 intro j u hu
 have hadd : (⟨g, o, none⟩ : Addr).add j = ⟨g, o + j, none⟩ := by unfold Addr.add; split <;> simp_all
 rw [hadd]
 have hj : j = j / 3 * 3 + j % 3 := by omega
 rw [hj, flatMap_get V.cells 3 V.cells_len l (j / 3) (j % 3) (Nat.mod_lt _ (by omega))] at hu
 obtain ⟨v, hv, hu⟩ := Option.bind_eq_some_iff.1 hu
 obtain ⟨h0, h1, h2⟩ := h _ v hv
 have hm : j % 3 = 0 ∨ j % 3 = 1 ∨ j % 3 = 2 := by omega
 rcases hm with e | e | e
 ·
  rw [e] at hu; simp [V.cells] at hu; subst hu; rw [show o + j = o + j / 3 * 3 by omega]; exact h0
 ·
  rw [e] at hu; simp [V.cells] at hu; subst hu; rw [show o + j = o + j / 3 * 3 + 1 by omega]; exact h1
 ·
  rw [e] at hu; simp [V.cells] at hu; subst hu; rw [show o + j = o + j / 3 * 3 + 2 by omega]; exact h2
end Go.Proofs.YtijlebhoapdfnaaGreat
/- Clones of values. -/
namespace Go.Proofs.YtijlebhoapdfnaaGreat
set_option linter.unusedSimpArgs false
open Go.RowKit
set_option linter.unusedVariables false
theorem clone_vals (w : World) (sv : Value) (l : List V) (h : SeesV w sv l) (hlen : l.length ≤ 4194304) :
  Calls Tryz.prog 152 #[sv] w fun e w' => ∃ v, e = .returned v ∧ slIs w' 24 3 V.cells v l ∧ (∀ b, v.ownBlock = some b → w.heap.size ≤ b) ∧ Below w.heap.size w w' := by
 obtain ⟨a, c, rfl, hcap, hmx, hcs⟩ := h
 have heq : ∀ W, (binOp .eql 56 (.slice a l.length c) (.slice none 0 0)).run Tryz.prog W = .ok (.bool a.isNone) W := fun W => Lib.run_eql_slice_nil W _ _ _ _ _ _ _ Tryz.underlying56
 cases a with
 | none =>
  have hl : l = [] := by
   rcases hcs with h | ⟨g, o, h, _⟩
   ·
    exact h
   ·
    cases h
  subst hl
  have heq2 : ∀ W, (binOp .eql 56 (.slice none 0 c) (.slice none 0 0)).run Tryz.prog W = .ok (.bool true) W := fun W => heq W
  clear hcs heq hcap
  simp only [List.length_nil]
  go_enter Tryz.func152, Tryz.ntmps152
  go_wp2
  go_returns
  exact ⟨_, rfl, World.ownsRow_nil _ _ _ _, by simp [Value.ownBlock], Below.refl _ _⟩
 | some p =>
  have hcells : ∀ j u, (l.flatMap V.cells)[j]? = some u → w.cell? (p.add j) = some u := by
   rcases hcs with h | ⟨g, o, h, hh⟩
   ·
    subst h; intro j u hu; simp at hu
   ·
    cases h; exact SeesV.cells hh
  obtain ⟨i0, hi, iz0, iz1, iz2⟩ := info_parts info_val
  have h0 : (w.alloc (.cells #[] 24)).ownsRow 0 24 3 (.slice (some ⟨w.heap.size, 0, none⟩) 0 0) 0 [] := World.ownsRow_made w #[] 0 (Nat.zero_le _) (Nat.zero_le _) rfl
  have HC := Lib.hid hcells
  have heq2 : ∀ W, (binOp .eql 56 (.slice (some p) l.length c) (.slice none 0 0)).run Tryz.prog W = .ok (.bool false) W := fun W => heq W
  clear hcs hcells heq
  go_enter Tryz.func152, Tryz.ntmps152
  go_wp2_with (at_builtin; refine wpList_append_own_at _ rfl _ _ 56 rfl 0 24 i0 _ 3 32 Tryz.underlying56 hi iz0 iz1 iz2 rfl (by decide) _ _ _ rfl h0 p l.length c (l.flatMap V.cells) rfl ?c1 ?c2 ?c3 ?c4 ?c5 ?c6 ?_)
  case c1 => exact flatMap_length V.cells 3 V.cells_len l
  case c2 => intro j u hu; have hu' := HC.out j u hu; exact (World.cell?_of_block (w := w) (Below.heap_alloc _ _ _ (World.block_lt_of_cell? w _ hu'))).trans hu'
  case c3 => intro u hu; obtain ⟨v, _, hv⟩ := List.mem_flatMap.1 hu; simp [V.cells] at hv; rcases hv with rfl | rfl | rfl <;> rfl
  case c4 => exact Nat.le_trans (show 0 + l.length ≤ 4194304 by omega) (by decide)
  case c5 => omega
  case c6 => exact Nat.zero_le _
  intro v' w1 hown hgr hnil hat
  go_wp2
  go_returns
  have hB : Below w.heap.size w w1 := ((Below.refl w.heap.size w).alloc (Nat.le_refl _) _).grown hgr (by simp) (fun k hk => by simp [Value.ownBlock] at hk; omega)
  refine ⟨v', rfl, ?_, ?_, hB⟩
  ·
   simpa [slIs] using hown
  ·
   intro b hb
   rcases hat with e | e
   ·
    rw [e] at hb; simp [Value.ownBlock] at hb; omega
   ·
    rw [e] at hb; simp at hb; omega
end Go.Proofs.YtijlebhoapdfnaaGreat
