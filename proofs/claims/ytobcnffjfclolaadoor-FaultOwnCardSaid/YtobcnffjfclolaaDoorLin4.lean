/- linear: Order; object: numbers. -/
import Derived.Test.YtobcnffjfclolaaDoorLin3
namespace Go.Proofs.YtobcnffjfclolaaDoor
set_option linter.unusedSimpArgs false
open Go.RowKit
set_option linter.unusedVariables false
section
variable {α : Type} {f : α → List Value} {m : Nat} {w W : World} {Rs : List Res}
/-- A row that fills its block. -/
theorem Sep.addFull (S : Sep w Rs W) {W' : World} (hb : Below W.heap.size W W') {e : TypeId} {g cap : Nat} {l : List α} {cs : Array Value} (hg : W'.heap[g]? = some (.cells cs e)) (hg0 : W.heap.size ≤ g) (hlen : (l.flatMap f).length = l.length * m) (hc : l.length ≤ cap) (hcm : cap ≤ maxLen) (hcs : cs.size = cap * m) (ht : cs.toList.take (l.length * m) = l.flatMap f) :
    Sep w (rowR e m f (.slice (some ⟨g, 0, none⟩) l.length cap) l :: Rs) W' :=
  S.addRow hb ⟨hlen, .inr ⟨g, cap, cs, rfl, Nat.zero_le _, hg, hc, hcm, hcs, ht⟩⟩ (fun b hb' => by simp [Value.ownBlock] at hb'; omega)
/-- Laid behind a row that has no room: a new row. -/
theorem run_append_clip (T e ty : TypeId) (hu : Tryd.prog.underlying T = some (.slice e)) (z : Value) (bytes : Nat) (hi : (Tryd.prog.info? e).map (fun i => (i.zero, i.size, i.bytes)) = some (some z, m, bytes)) (hz : z.cells.size = m) (hm0 : 0 < m) (hby : bytes ≤ 4000) (hm : ∀ a, (f a).length = m) (h1 : ∀ p, ∀ u ∈ f p, u.oneCell' = true)
    {a : Option Addr} {xs : List α} (S : Sep w Rs W) (hxs : SeesR f m W (.slice a xs.length xs.length) xs) (sv : Value) (l : List α) (hsv : SeesR f m W sv l) (hl0 : 0 < l.length) (hlen : xs.length + l.length ≤ 9000000) :
    ∃ va vc w', (Builtin.append_ #[T, T] ty #[.slice a xs.length xs.length, sv]).run Tryd.prog W = .ok (.slice va (xs.length + l.length) vc) w' ∧ Sep w (rowR e m f (.slice va (xs.length + l.length) vc) (xs ++ l) :: Rs) w' := by
  obtain ⟨_, _, e0, -, -, hx⟩ := hxs
  cases e0
  cases a with
  | none =>
    have hn : xs = [] := by
      rcases hx with h | ⟨g, o, h, _⟩
      · exact h
      · cases h
    subst hn
    have S1 := S.addRow (Below.refl _ _) (e := e) (m := m) (f := f) (v := .slice none 0 0) (l := []) (World.ownsRow_nil _ _ _ _) (by simp [Value.ownBlock])
    exact run_append_rows T e ty hu z bytes hi hz hm0 hby hm h1 S1 0 rfl sv l hsv hlen
  | some b =>
    obtain ⟨i0, hi, iz0, iz1, iz2⟩ := info_parts hi
    obtain ⟨p, c, rfl, q1, q2, q3⟩ := hsv
    have cells : ∀ (b : Addr) (xs : List α), (xs = [] ∨ ∃ g o, some b = some ⟨g, o, none⟩ ∧ ∀ (i : Nat) (p : α), xs[i]? = some p → ∀ (j : Nat) (u : Value), (f p)[j]? = some u → W.cell? ⟨g, o + i * m + j, none⟩ = some u) → ∀ j u, (xs.flatMap f)[j]? = some u → W.cell? (b.add j) = some u := by
      rintro b xs (h | ⟨g, o, h, hh⟩)
      · subst h; intro j u hu; simp at hu
      · cases h
        intro j u hu
        have hadd : (⟨g, o, none⟩ : Addr).add j = ⟨g, o + j, none⟩ := by unfold Addr.add; split <;> simp_all
        have hmod : j % m < m := Nat.mod_lt _ hm0
        have hje : j / m * m + j % m = j := by rw [Nat.mul_comm]; exact Nat.div_add_mod j m
        have := flatMap_get f m hm xs (j / m) (j % m) hmod
        rw [hje] at this
        rw [this] at hu
        obtain ⟨q, hq, hu⟩ := Option.bind_eq_some_iff.1 hu
        have h5 := hh (j / m) q hq (j % m) u hu
        rw [hadd]
        rwa [Nat.add_assoc, hje] at h5
    obtain ⟨p, rfl⟩ : ∃ p', p = some p' := by
      rcases q3 with h | ⟨g, o, h, _⟩
      · subst h; simp at hl0
      · exact ⟨_, h⟩
    have h62 : (9000000 : Nat) ≤ maxLen := by simp [maxLen]
    have h63 : xs.length + l.length ≤ maxLen := Nat.le_trans hlen h62
    have hbb : (xs.length + l.length) * i0.bytes ≤ 140737488355328 := by rw [iz2]; exact Nat.le_trans (Nat.mul_le_mul hlen hby) (by omega)
    have h64 : ((xs.length + l.length : Nat) : Int) ≤ 9223372036854775807 := by omega
    have hr := run_append_grow (P := Tryd.prog) W T ty e i0 z hu hi iz0 b xs.length xs.length (xs.flatMap f) (by rw [iz1]; exact flatMap_length f _ hm xs) (cells b xs hx) p l.length c (l.flatMap f) (by rw [iz1]; exact flatMap_length f _ hm l) (cells p l q3) (by omega) h64 (growslice_fits (by omega) hbb)
    have hge := grownCap_ge W (xs.length + l.length) xs.length e
    have hcm : grownCap W (xs.length + l.length) xs.length e ≤ maxLen := grownCap_le_maxLen W (xs.length + l.length) xs.length e h63
    have hB : Below W.heap.size W (W.drew.alloc (.cells ((xs.flatMap f).toArray ++ (l.flatMap f).toArray ++ Builtin.zeroCells z.cells (grownCap W (xs.length + l.length) xs.length e - (xs.length + l.length))) e)) := (Below.drew (Below.refl _ _)).alloc (Nat.le_refl _) _
    refine ⟨_, _, _, hr, ?_⟩
    have hf := S.addFull (f := f) (m := m) (l := xs ++ l) hB (heapAllocNew W.drew _) (Nat.le_refl _) (flatMap_length f _ hm _) (by rw [List.length_append]; exact hge) hcm ?_ ?_
    · rw [List.length_append] at hf; exact hf
    · simp only [Array.size_append, List.size_toArray, size_zeroCells, hz, flatMap_length f _ hm, ← Nat.add_mul]
      rw [Nat.add_sub_cancel' hge]
    · simp only [Array.toList_append, List.append_assoc]
      rw [← List.append_assoc, List.flatMap_append]
      exact List.take_left' (by rw [List.length_append, flatMap_length f _ hm, flatMap_length f _ hm, List.length_append, Nat.add_mul])
end
section
variable {w W : World} {Rs : List Res}
theorem RowsIn.snoc {G : World → Prop} {svs : List SlV} {rows : List (List Int)} (h : RowsIn G svs rows) {sv : SlV} {l : List Int} (hs : ∀ W, G W → SeesN W sv.val l) : RowsIn G (svs ++ [sv]) (rows ++ [l]) := by
  refine ⟨by simp [h.1], fun i sv' l' h1 h2 W hW => ?_⟩
  by_cases e : i < svs.length
  · rw [List.getElem?_append_left e] at h1
    rw [List.getElem?_append_left (by have := h.1; omega)] at h2
    exact h.2 i sv' l' h1 h2 W hW
  · rw [List.getElem?_append_right (by omega)] at h1
    rw [List.getElem?_append_right (by have := h.1; omega)] at h2
    have h3 : i - rows.length = i - svs.length := by have := h.1; omega
    rw [h3] at h2
    cases hk : i - svs.length with
    | zero => rw [hk] at h1 h2; simp at h1 h2; subst h1; subst h2; exact hs W hW
    | succ k => rw [hk] at h1; simp at h1
def OrderDone (w : World) (Rs : List Res) (cl : Int) (rows : List (List Int)) (e : Ending) (W : World) : Prop :=
  (∃ l, mergeM rows = some l ∧ cl ∉ l ∧ ∃ v, e = .returned (.tuple #[v, .bool true]) ∧ Sep w (numsR v (cl :: l) :: Rs) W) ∨ ((∀ l, mergeM rows = some l → cl ∈ l) ∧ e = .returned (.tuple #[.slice none 0 0, .bool false]) ∧ Sep w Rs W)
theorem sizeM_snoc (rows : List (List Int)) (l : List Int) : sizeM (rows ++ [l]) = sizeM rows + l.length := by simp [sizeM]
set_option maxRecDepth 100000 in
set_option maxHeartbeats 1600000 in
theorem lorder_ok (S : Sep w Rs W) (cl : Int) (ba : Option Addr) (bc : Nat) (bases : List Int) (hbs : ∀ W', Sep w Rs W' → SeesN W' (.slice ba bases.length bc) bases) (oa : Option Addr) (oc : Nat) (svs : List SlV) (rows : List (List Int))
    (hs : ∀ W', Sep w Rs W' → SeesR slCellN 1 W' (.slice oa svs.length oc) svs) (hr : RowsIn (Sep w Rs) svs rows) (hl : svs.length + 1 ≤ 1000000) (hz : sizeM rows + bases.length ≤ 1000000) :
    Calls Tryd.prog 51 #[.int .i64 cl, .slice ba bases.length bc, .slice oa svs.length oc] W (OrderDone w Rs cl (rows ++ [bases])) := by
  obtain ⟨_, _, e0, c1, c2, c3⟩ := hs W S
  cases e0
  have CC := Lib.hid (nclip_ok W oa svs.length oc c1 c2)
  have S1 := S.alloc (.cells #[.slice ba bases.length bc] 89)
  have hsx : SeesR slCellN 1 (W.alloc (.cells #[.slice ba bases.length bc] 89)) (.slice oa svs.length svs.length) svs := by
    obtain ⟨_, _, e0, k1, k2, k3⟩ := hs _ S1.tail
    cases e0
    exact ⟨_, _, rfl, Nat.le_refl _, Nat.le_trans c1 c2, k3⟩
  have hone := sees_one (f := slCellN) (m := 1) (y := ((ba, bases.length, bc) : SlV)) (heapAllocNew W (.cells #[.slice ba bases.length bc] 89)) rfl
  obtain ⟨va, vc, w2, hap, S2⟩ := run_append_clip (f := slCellN) (m := 1) 87 89 87 Tryd.underlying87 _ 24 info_sln rfl (by decide) (by decide) (fun _ => rfl) slCellN_one S1.tail hsx _ _ hone (by simp) (by simp; omega)
  simp only [List.length_singleton] at hap S2
  have hrows : RowsIn (Sep w (slnR (.slice va (svs.length + 1) vc) (svs ++ [(ba, bases.length, bc)]) :: Rs)) (svs ++ [(ba, bases.length, bc)]) (rows ++ [bases]) :=
    (hr.mono fun W' h => Sep.tail h).snoc fun W' h => hbs W' (Sep.tail h)
  have CM := merge_ok S2 va (svs.length + 1) vc (svs ++ [(ba, bases.length, bc)]) (rows ++ [bases]) (by simp) (fun W' T => by
    have := (T.row 0 rfl).seesR (f := slCellN) (m := 1) (fun _ => rfl)
    simpa using this) hrows hl (by rw [sizeM_snoc]; exact hz)
  replace CM := Lib.hid CM
  have HAP := Lib.hid hap
  have HML := Lib.hid (fun l (h : mergeM (rows ++ [bases]) = some l) => (show l.length ≤ 1000000 by have := merge_len _ _ h; rw [sizeM_snoc] at this; omega))
  clear S S1 S2 hsx hone hrows hs hr hbs hap c1 c2 c3 hl hz
  obtain ⟨R, hR⟩ : ∃ gx_, (rows ++ [bases]) = gx_ := ⟨_, rfl⟩
  rw [hR] at CM HML ⊢
  clear hR
  go_enter Tryd.func51, Tryd.ntmps51
  go_wp2_with fail
  refine CC.out.mono ?_
  rintro e w1 ⟨rfl, rfl⟩
  go_wp2_with (at_builtin; refine Lib.wpList_append_run _ rfl _ _ _ _ rfl _ _ rfl rfl _ _ HAP.out ?_)
  go_wp2_with fail
  refine CM.out.mono ?_
  rintro e w3 (⟨l, hm, v, rfl, S3⟩ | ⟨hm, rfl, S3⟩)
  · obtain ⟨la, lc, rfl⟩ := (S3.row 0 rfl).form
    have hll := HML.out l hm
    have CK := ncontains_ok w3 _ l cl (SeesN.of_slIs (S3.row 0 rfl))
    cases hc : decide (cl ∈ l) with
    | true =>
      rw [hc] at CK
      replace CK := Lib.hid CK
      have HF := Lib.hid (show ∀ l', mergeM R = some l' → cl ∈ l' by intro l' h; rw [hm] at h; cases h; simpa using hc)
      have S4 := Lib.hid S3.tail.tail
      clear CM CC hc hm S3
      go_wp2_with fail
      refine CK.out.mono ?_
      rintro e w4 ⟨rfl, rfl⟩
      clear CK
      go_wp2
      exact bodyPost_ret (v := .tuple #[.slice none 0 0, .bool false]) (by simp [results, Tryd.results51, go_sem]) rfl (.inr ⟨HF.out, rfl, S4.out⟩)
    | false =>
      rw [hc] at CK
      replace CK := Lib.hid CK
      have HF := Lib.hid (And.intro hm (show cl ∉ l by simpa using hc))
      have HLL := Lib.hid hll
      have S4 := Lib.hid S3
      clear CM CC hc hm S3 hll
      go_wp2_with fail
      refine CK.out.mono ?_
      rintro e w4 ⟨rfl, rfl⟩
      clear CK
      have S5 := Sep.addFull (f := intCell) (m := 1) (l := [cl]) (cap := 1) S4.out (belowAlloc w4 (.cells #[.int .i64 cl] 2)) (heapAllocNew w4 _) (Nat.le_refl _) rfl (by simp) (by decide) rfl rfl
      have hse := (S5.row 1 rfl).seesR (f := intCell) (m := 1) (fun _ => rfl)
      go_wp2_with (at_builtin; refine wpList_append_rows rfl _ _ 89 2 rfl Tryd.underlying89 _ 8 info_int64 rfl (by decide) (by decide) (fun _ => rfl) (by intro p u hu; simp [intCell] at hu; subst hu; rfl) S5 0 rfl rfl _ l rfl hse (by have := HLL.out; simp; omega) ?_)
      intro xa xc w5 S6
      have S7 : Sep w (numsR (.slice xa ([cl].length + l.length) xc) (cl :: l) :: numsR (.slice la l.length lc) l :: slnR (.slice va (svs.length + 1) vc) (svs ++ [(ba, bases.length, bc)]) :: Rs) w5 := S6
      have S8 := Lib.hid (S7.sub (Qs := numsR (.slice xa ([cl].length + l.length) xc) (cl :: l) :: Rs) (.cons_cons _ (.cons _ (.cons _ (List.Sublist.refl _)))))
      clear S5 S6 S7 hse S4
      go_wp2
      exact bodyPost_ret (v := .tuple #[.slice xa ([cl].length + l.length) xc, .bool true]) (by simp [results, Tryd.results51, go_sem]) rfl (.inl ⟨l, HF.out.1, HF.out.2, _, rfl, S8.out⟩)
  · have HF := Lib.hid (show ∀ l', mergeM R = some l' → cl ∈ l' by intro l' h; rw [hm] at h; cases h)
    have S4 := Lib.hid S3.tail
    clear CM CC hm S3
    go_wp2
    exact bodyPost_ret (v := .tuple #[.slice none 0 0, .bool false]) (by simp [results, Tryd.results51, go_sem]) rfl (.inr ⟨HF.out, rfl, S4.out⟩)
end
end Go.Proofs.YtobcnffjfclolaaDoor
